/- a part of a proof of StuckTells -/
import Derived.Test.YtmlncblocfcmiaaGreatHct
import Derived.Test.YtmlncblocfcmiaaGreatRtVt
import Derived.Test.YtmlncblocfcmiaaGreatRows
import Derived.WalkKit
import Derived.ProofKit
import Derived.OpenShut
import Derived.JoinedCond
import Derived.Deep.Slices
import Derived.Carry
import Derived.ChangeArms
import Derived.ChangeSame
import Derived.Test.YtmlncblocfcmiaaGreatS1W3t
set_option linter.all false
namespace Go.Proofs.YtmlncblocfcmiaaGreat
open Go.RowKit
mutual
def jg (v : aA → Bool) : Formula → Bool
  | ⟨o, k, r, ks⟩ => if o = 1 then v r else if o = 2 then decide (evN v ks = ks.length) else if o = 3 then decide (0 < evN v ks) else decide (k ≤ (evN v ks : Int))
def evN (v : aA → Bool) : List Formula → Nat
  | [] => 0
  | k :: ks => (if jg v k then 1 else 0) + evN v ks
end
theorem pd (v : aA → Bool) (f : Formula) : jg v f = if f.Op = 1 then v f.aA else if f.Op = 2 then decide (evN v f.Kids = f.Kids.length) else if f.Op = 3 then decide (0 < evN v f.Kids) else decide (f.K ≤ (evN v f.Kids : Int)) := by cases f; rw [jg]
theorem Br (v : aA → Bool) : ∀ ks : List Formula, evN v ks ≤ ks.length
  | [] => by rw [evN]; exact Nat.le_refl _
  | k :: ks => by have := Br v ks; rw [evN, List.length_cons]; split <;> omega
theorem Cd (v : aA → Bool) : ∀ ks : List Formula, evN v ks = ks.length ↔ ∀ k ∈ ks, jg v k = true
  | [] => by rw [evN]; simp
  | k :: ks => by
    have b := Br v ks
    have a := Cd v ks
    rw [evN, List.length_cons]
    simp only [List.forall_mem_cons, ← a]
    cases jg v k <;> simp <;> omega
theorem Cz (v : aA → Bool) : ∀ ks : List Formula, 0 < evN v ks ↔ ∃ k ∈ ks, jg v k = true
  | [] => by rw [evN]; simp
  | k :: ks => by
    have a := Cz v ks
    rw [evN]
    simp only [List.mem_cons, exists_eq_or_imp, ← a]
    cases jg v k <;> simp <;> omega
theorem BM (v : aA → Bool) (ks : List Formula) : evN v ks = (ks.filter (jg v)).length := by
  induction ks with
  | nil => rw [evN]; rfl
  | cons k ks ih => rw [evN, ih, List.filter_cons]; cases jg v k <;> simp <;> omega
theorem H5 (v : aA → Bool) {a b : List Formula} (h : a.Perm b) : evN v a = evN v b := by
  rw [BM, BM]; exact (h.filter _).length_eq
theorem J3 {v w : aA → Bool} (h : ∀ r, v r = true → w r = true) : ∀ f : Formula, jg v f = true → jg w f = true := by
  refine D6 fun f ih => ?_
  have key : evN v f.Kids ≤ evN w f.Kids := by
    have : ∀ ks : List Formula, (∀ k ∈ ks, jg v k = true → jg w k = true) → evN v ks ≤ evN w ks := by
      intro ks
      induction ks with
      | nil => intro _; rw [evN, evN]; exact Nat.le_refl _
      | cons k ks a =>
        intro b
        have j := a (fun x i => b x (by simp [i]))
        have d := b k (by simp)
        rw [evN, evN]
        cases g : jg v k
        · simp; omega
        · rw [d g]; simp; omega
    exact this _ ih
  have hle := Br w f.Kids
  rw [pd, pd]
  split
  · exact h _
  · split
    · simp only [decide_eq_true_eq]; omega
    · split
      · simp only [decide_eq_true_eq]; omega
      · simp only [decide_eq_true_eq]; omega
theorem yj (v : aA → Bool) (a : aA → Option Bool) (rec : Formula → (aA → Option Bool) → Option Bool) (f : Formula) : ∀ (ks : List Formula) (x : Nat), (∀ k ∈ ks, rec k a = some (jg v k)) → x + ks.length ≤ 100000000 →
    iQ rec a f ks (x : Int) = some (if f.Op = 2 then decide (x + evN v ks = f.Kids.length) else if f.Op = 3 then decide (0 < x + evN v ks) else decide (f.K ≤ ((x + evN v ks : Nat) : Int)))
  | [], x, _, _ => by
    rw [iQ, evN, Nat.add_zero]
    by_cases b : f.Op = 2
    · simp only [b, beq_self_eq_true, if_true]
      congr 1
      rw [Bool.eq_iff_iff, beq_iff_eq, decide_eq_true_eq]; omega
    · have g : (f.Op == 2) = false := by simpa using b
      simp only [g, Bool.false_eq_true, if_false, b]
      by_cases d : f.Op = 3
      · simp only [d, beq_self_eq_true, if_true]
        congr 1
        rw [Bool.eq_iff_iff, decide_eq_true_eq, decide_eq_true_eq]; omega
      · have j : (f.Op == 3) = false := by simpa using d
        simp only [j, Bool.false_eq_true, if_false, d]
  | k :: ks, x, h, l => by
    rw [List.length_cons] at l
    rw [iQ, h k (by simp), Option.bind_some, evN]
    cases jg v k
    · simp only [Bool.false_eq_true, if_false]
      rw [yj v a rec f ks x (fun z i => h z (by simp [i])) (by omega), Nat.zero_add]
    · simp only [if_true]
      have e : IntKind.i64.wrap ((x : Int) + 1) = ((x + 1 : Nat) : Int) := by rw [cP (by omega) (by omega)]; omega
      rw [e, yj v a rec f ks (x + 1) (fun z i => h z (by simp [i])) (by omega)]
      have g : x + 1 + evN v ks = x + (1 + evN v ks) := by omega
      rw [g]
theorem Hx (v : aA → Bool) (b : aA → Option Bool) (m : ∀ r, b r = some (v r)) : ∀ (n : Nat) (f : Formula), gm f ≤ n → Gd f → jd n f b = some (jg v f) := by
  intro n
  induction n with
  | zero => intro f h; rw [eZ] at h; omega
  | succ n ih =>
    intro f i j
    rw [eZ] at i
    have l := gA f
    have p := je f.Kids
    unfold Gd at j
    rw [jd]
    unfold oD
    rw [pd]
    by_cases a : f.Op = 1
    · simp only [a, beq_self_eq_true, if_true, m, Option.bind_some]
    · have g : (f.Op == 1) = false := by simpa using a
      simp only [g, Bool.false_eq_true, if_false, a]
      have := yj v b (jd n) f f.Kids 0 (fun k d => ih k (by have := kz d; omega) (by have := mN d; unfold Gd; omega)) (by omega)
      simpa using this
def tJ (v : aA → Bool) (f : Formula) : Bool := fS f && jg v f
theorem Ki (v : aA → Bool) (a : aA → Option Bool) (b : ∀ r, a r = some (v r)) (f : Formula) (h : Gd f) : qf f a = some (tJ v f) := by
  unfold qf tJ
  rw [xc f h, Option.bind_some]
  have := qx f
  cases fS f
  · rfl
  · unfold Gd at h
    simp only [if_true, Hx v a b bL f (by rw [eE]; omega) h, Option.bind_some, Bool.true_and]
theorem Bx (op : Int) (f : Formula) : dL op f = true ↔ f.Op = op ∧ f.Kids = [] := by
  unfold dL; simp
theorem Dh (v : aA → Bool) {f : Formula} (h : dL 2 f = true) : jg v f = true := by
  obtain ⟨a, b⟩ := (Bx 2 f).1 h
  rw [pd, a, b, evN]; rfl
theorem CO (v : aA → Bool) {f : Formula} (h : dL 3 f = true) : jg v f = false := by
  obtain ⟨a, b⟩ := (Bx 3 f).1 h
  rw [pd, a, b, evN]; rfl
def ns (v : aA → Bool) (ks : List Formula) : Bool := ks.all (jg v)
def nI (v : aA → Bool) (ks : List Formula) : Bool := ks.any (jg v)
theorem FA (v : aA → Bool) (k : Int) (r : aA) (ks : List Formula) : jg v ⟨2, k, r, ks⟩ = ns v ks := by
  rw [pd, Bool.eq_iff_iff]; simp [ns, Cd]
theorem HD (v : aA → Bool) (k : Int) (r : aA) (ks : List Formula) : jg v ⟨3, k, r, ks⟩ = nI v ks := by
  rw [pd, Bool.eq_iff_iff]; simp [nI, Cz]
theorem Ey (v : aA → Bool) : ∀ ks : List Formula, ns v (gv 2 ks) = ns v ks
  | [] => rfl
  | k :: ks => by
    have ih := Ey v ks
    unfold ns at ih ⊢
    rw [gv, List.all_append, ih, List.all_cons]
    congr 1
    split
    · a h
      obtain ⟨o, n, r, l⟩ := k
      simp only at h; subst h
      exact (FA v n r l).symm
    · simp
theorem DO (v : aA → Bool) : ∀ ks : List Formula, nI v (gv 3 ks) = nI v ks
  | [] => rfl
  | k :: ks => by
    have ih := DO v ks
    unfold nI at ih ⊢
    rw [gv, List.any_append, ih, List.any_cons]
    congr 1
    split
    · a h
      obtain ⟨o, n, r, l⟩ := k
      simp only at h; subst h
      exact (HD v n r l).symm
    · simp
theorem HG (l : List Formula) (x : Formula) : x ∈ dd jE (ou l) ↔ x ∈ l := by
  rw [DT (fun _ _ => uF), (rJ l).mem_iff]
theorem G5 {v : aA → Bool} {a b : List Formula} (h : ∀ x, x ∈ a ↔ x ∈ b) : ns v a = ns v b := by
  unfold ns; rw [Bool.eq_iff_iff, List.all_eq_true, List.all_eq_true]
  exact ⟨fun q x d => q x ((h x).2 d), fun q x d => q x ((h x).1 d)⟩
theorem G3 {v : aA → Bool} {a b : List Formula} (h : ∀ x, x ∈ a ↔ x ∈ b) : nI v a = nI v b := by
  unfold nI; rw [Bool.eq_iff_iff, List.any_eq_true, List.any_eq_true]
  exact ⟨fun ⟨x, d, q⟩ => ⟨x, (h x).1 d, q⟩, fun ⟨x, d, q⟩ => ⟨x, (h x).2 d, q⟩⟩
theorem By (v : aA → Bool) (ks : List Formula) : jg v (iF 2 ks) = ns v ks := by
  rw [← Ey]
  unfold iF
  split
  · a h
    rw [show (5 - 2 : Int) = 3 from rfl, HD]
    obtain ⟨x, b, he⟩ := List.any_eq_true.1 h
    have : ns v (gv 2 ks) = false := by
      unfold ns; rw [List.all_eq_false]; exact ⟨x, b, by rw [CO v he]; simp⟩
    rw [this]; rfl
  · rw [← G5 (HG (gv 2 ks))]
    generalize dd jE (ou (gv 2 ks)) = r
    split
    · simp [ns]
    · exact FA v 0 jf r
theorem Bl (v : aA → Bool) (ks : List Formula) : jg v (iF 3 ks) = nI v ks := by
  rw [← DO]
  unfold iF
  split
  · a h
    rw [show (5 - 3 : Int) = 2 from rfl, FA]
    obtain ⟨x, b, he⟩ := List.any_eq_true.1 h
    have : nI v (gv 3 ks) = true := by
      unfold nI; rw [List.any_eq_true]; exact ⟨x, b, Dh v he⟩
    rw [this]; rfl
  · rw [← G3 (HG (gv 3 ks))]
    generalize dd jE (ou (gv 3 ks)) = r
    split
    · simp [nI]
    · exact HD v 0 jf r
theorem Df (v : aA → Bool) : ∀ ks : List Formula, evN v ks = (ks.filter (dL 2)).length + evN v (ks.filter fun x => !dL 2 x && !dL 3 x)
  | [] => rfl
  | k :: ks => by
    have ih := Df v ks
    rw [evN, List.filter_cons, List.filter_cons, ih]
    cases a : dL 2 k
    · cases b : dL 3 k
      · simp only [Bool.not_false, Bool.and_self, Bool.false_eq_true, if_false, if_true]
        rw [evN]; omega
      · rw [CO v b]; simp
    · rw [Dh v a]; simp; omega
theorem GN (v : aA → Bool) (k : Int) (ks : List Formula) : jg v (me k ks) = decide (k ≤ (evN v ks : Int)) := by
  have b := Df v ks
  unfold me
  simp only
  generalize a : ks.filter (fun x => !dL 2 x && !dL 3 x) = l at *
  generalize (ks.filter (dL 2)).length = m at *
  have hle := Br v l
  have ha := Cd v l
  have hp := Cz v l
  split
  · rw [FA]; simp [ns]; omega
  · split
    · rw [HD]; simp [nI]; omega
    · split
      · rw [By, Bool.eq_iff_iff, decide_eq_true_eq]
        unfold ns
        rw [List.all_eq_true, ← ha]; omega
      · split
        · rw [Bl, Bool.eq_iff_iff, decide_eq_true_eq]
          unfold nI
          rw [List.any_eq_true, ← hp]; omega
        · rw [pd]
          simp only [H5 v (rJ l)]
          have : ¬ ((4 : Int) = 1) := by omega
          have : ¬ ((4 : Int) = 2) := by omega
          have : ¬ ((4 : Int) = 3) := by omega
          simp only [*, if_false]
          rw [Bool.eq_iff_iff, decide_eq_true_eq, decide_eq_true_eq]; omega
theorem IE (v : aA → Bool) : ∀ f : Formula, mH f = true → jg v (iK f) = jg v f := by
  refine D6 fun f ih hw => ?_
  obtain ⟨p, i, j⟩ := qQ hw
  rw [yn, List.all_eq_true] at i
  have key : ∀ ks : List Formula, (∀ k ∈ ks, jg v (iK k) = jg v k) → evN v (shapeL ks) = evN v ks ∧ ns v (shapeL ks) = ns v ks ∧ nI v (shapeL ks) = nI v ks := by
    intro ks
    induction ks with
    | nil => intro _; rw [shapeL]; exact ⟨rfl, rfl, rfl⟩
    | cons k ks g =>
      intro d
      obtain ⟨a, b, c⟩ := g (fun x m => d x (by simp [m]))
      have h := d k (by simp)
      unfold ns nI at *
      rw [shapeL, evN, evN, a, h, List.all_cons, List.all_cons, List.any_cons, List.any_cons, b, c, h]
      exact ⟨rfl, rfl, rfl⟩
  obtain ⟨a, b, c⟩ := key f.Kids (fun k d => ih k d (i k d))
  obtain ⟨o, n, r, l⟩ := f
  simp only at *
  rw [rA]
  simp only
  rcases j with h | h | h
  · simp only [h.1, if_true]
  · rcases h.1 with h | h
    · subst h
      rw [FA]
      exact (By v _).trans b
    · subst h
      rw [HD]
      exact (Bl v _).trans c
  · obtain ⟨h, _⟩ := h
    subst h
    rw [pd v ⟨4, n, r, l⟩]
    exact (GN v n _).trans (by rw [a]; rfl)
theorem Hu {f g : Formula} (h : pE f = (g, 0)) : fS f = true ∧ fS g = true ∧ ∀ v, jg v g = jg v f := by
  unfold pE at h
  cases a : fS f
  · rw [a] at h; simp at h
  · rw [a] at h
    simp only [if_true] at h
    cases b : fS (iK f)
    · rw [b] at h; simp at h
    · rw [b] at h
      simp only [if_true, Prod.mk.injEq] at h
      obtain ⟨rfl, _⟩ := h
      exact ⟨rfl, b, fun v => IE v f (th a).2.2⟩
end Go.Proofs.YtmlncblocfcmiaaGreat
namespace Go.Proofs.YtmlncblocfcmiaaGreat
open Go.RowKit
structure PB (p : cR) : Prop where
  Bk : p.aT.length ≤ 2000000
  Gs : p.bP.length ≤ 2000000
  rel : ∀ x ∈ p.aT, cE x.aI ≤ 10000000
  Gl : ∀ a ∈ p.bP, cE a.aI ≤ 10000000
  ME : ∀ a ∈ p.bP, a.eQ.length ≤ 2000000
theorem xn (f : cI → Option Bool) : ∀ (l : List cI) (i : Nat), fM f l i = sW f l i
  | [], i => by rw [fM]; rfl
  | x :: l, i => by
    rw [fM, sW]
    cases f x with
    | none => rfl
    | some b =>
      simp only [Option.bind_some]
      rw [xn f l (i + 1)]
theorem D9 (f : gM → Option Bool) : ∀ (l : List gM) (i : Nat), gu f l i = sW f l i
  | [], i => by rw [gu]; rfl
  | x :: l, i => by
    rw [gu, sW]
    cases f x with
    | none => rfl
    | some b =>
      simp only [Option.bind_some]
      rw [D9 f l (i + 1)]
def tI (p : cR) (c : aB) : Option cI := p.aT.find? fun x => bT x.Signed.aB c
theorem Kg (p : cR) (c : aB) : ∃ z, si p c = some (match tI p c with | some x => (x, true) | none => (z, false)) := by
  unfold si fl tI
  rw [xn]
  rcases sQ (fun x => pA x c) (fun x => bT x.Signed.aB c) p.aT 0 (fun x _ => rfl) with ⟨e, g⟩ | ⟨A, x, B, hp, g, i, e⟩
  · rw [e, Option.bind_some, List.find?a.2 (fun x h => by rw [g x h]; simp)]
    exact ⟨_, rfl⟩
  · rw [e, Option.bind_some, hp, List.find?b, List.find?a.2 (fun x h => by rw [g x h]; simp), List.find?d, i]
    have : ¬ (((0 + A.length : Nat) : Int) < 0) := by omega
    simp only [this, decide_false, Bool.false_eq_true, if_false]
    rw [fj A x B _ (by omega)]
    exact ⟨x, rfl⟩
def Kz : gM := ⟨⟨zS, zS⟩, ⟨0, 0, ⟨zS, zS⟩, []⟩, []⟩
theorem DX (f : gM → Option Bool) : ∀ (n : Nat) (l : List gM) (i j : Int), gk f n l i j = xm f Kz n l i j
  | 0, _, _, _ => rfl
  | n + 1, l, i, j => by
    rw [gk, xm]
    simp only [DX f n]
    rfl
def rO (p : cR) (c : aB) : List gM := p.bP.filter fun a => eP bT a.eQ c
theorem I6 (p : cR) (hp : PB p) (c : aB) : rk p c = some (rO p c) := by
  have := hp.Gs
  unfold rk nC rO
  rw [eW (by simp; omega) (by simp; omega)]
  simp only [Option.bind_some, List.nil_append, gh]
  have : kM p.bP (fun x => ll x c) = Cp (fun x => ll x c) Kz p.bP := by
    unfold kM Cp nW
    simp only [D9, DX]
  rw [this, wS _ (fun a => !eP bT a.eQ c) Kz _ (by omega) (fun a _ => by unfold ll km; rw [gh, Aq]; rfl)]
  simp only [Bool.not_not]
noncomputable def iC : Formula × Int → List Formula → Formula × Int
  | t, [] => t
  | t, g :: l => if t.2 = 0 then iC (pE ⟨2, 0, jf, [t.1, g]⟩) l else t
theorem Fu : ∀ (l : List Formula) (e o k : Int) (r : aA) (ks : List Formula), (∀ g ∈ l, cE g ≤ 10000000) → cE ⟨o, k, r, ks⟩ ≤ 64 →
    mS l e o k r ks = some ((iC (⟨o, k, r, ks⟩, e) l).2, (iC (⟨o, k, r, ks⟩, e) l).1.Op, (iC (⟨o, k, r, ks⟩, e) l).1.K, (iC (⟨o, k, r, ks⟩, e) l).1.aA, (iC (⟨o, k, r, ks⟩, e) l).1.Kids)
  | [], e, o, k, r, ks, _, _ => by rw [mS, iC]
  | g :: l, e, o, k, r, ks, h, n => by
    rw [mS, iC]
    by_cases c : e = 0
    · have a : (e != 0) = false := by simp [c]
      simp only [a, Bool.false_eq_true, if_false, c, if_true]
      rw [Kl _ g (by omega) (h g (by simp)), Option.bind_some]
      have d := rH (f := ⟨2, 0, jf, [⟨o, k, r, ks⟩, g]⟩)
      generalize pE ⟨2, 0, jf, [⟨o, k, r, ks⟩, g]⟩ = q at *
      obtain ⟨⟨j, k', m, b⟩, e'⟩ := q
      exact Fu l e' j k' m b (fun z i => h z (by simp [i])) d
    · have a : (e != 0) = true := by simp [c]
      simp only [a, if_true, c, if_false]
noncomputable def uf (g : Formula) (l : List Formula) : Formula × Int := if (iC (pE g) l).2 = 0 then iC (pE g) l else (zT, (iC (pE g) l).2)
theorem Kd (g : Formula) (l : List Formula) (m : cE g ≤ 10000000) (h : ∀ x ∈ l, cE x ≤ 10000000) : pk (g :: l) = some (uf g l) := by
  unfold pk uf
  have b : dU (g :: l) 0 = some g := fj [] g l 0 rfl
  have a : lR (decide (0 ≤ 1) && decide ((1 : Int) ≤ ((g :: l).length : Int))) = some () := by
    rw [List.length_cons]
    have : (1 : Int) ≤ ((l.length + 1 : Nat) : Int) := by omega
    simp [lR]; omega
  have i := rH (f := g)
  rw [b, Option.bind_some, Fm g (by unfold Gd; omega), Option.bind_some, a, Option.bind_some]
  generalize pE g = q at *
  obtain ⟨⟨o, k, r, ks⟩, e⟩ := q
  have d : (g :: l).drop (Int.toNat 1) = l := rfl
  rw [d, Fu l e o k r ks h i, Option.bind_some]
  generalize iC (⟨o, k, r, ks⟩, e) l = t
  obtain ⟨⟨n, k', p, j⟩, e'⟩ := t
  by_cases c : e' = 0
  · subst c; rfl
  · have a : (e' != 0) = true := by simp [c]
    simp only [a, if_true, c, if_false]; rfl
noncomputable def iI (p : cR) (c : aB) : Formula × Int := match tI p c with | none => (zT, 42) | some x => uf x.aI ((rO p c).map (·.aI))
theorem G8 : ∀ (l : List gM) (acc : List Formula), acc.length + l.length ≤ 3000000 → nA l acc = pk (acc ++ l.map (·.aI))
  | [], acc, _ => by
    rw [nA, List.map_nil, List.append_nil]
    cases pk acc <;> rfl
  | a :: l, acc, h => by
    rw [List.length_cons] at h
    rw [nA, eW (by simp; omega) (by simp; omega), Option.bind_some, G8 l _ (by simp; omega)]
    simp
theorem Ih {p : cR} {c : aB} {x : cI} (h : tI p c = some x) : x ∈ p.aT ∧ x.Signed.aB = c := by
  unfold tI at h
  have d := List.mem_of_find?a h
  have g := List.find?b h
  exact ⟨d, eU.1 g⟩
theorem Lr (p : cR) (hp : PB p) (c : aB) : uw p c = some (iI p c) := by
  unfold uw iI
  obtain ⟨z, e⟩ := Kg p c
  rw [e, Option.bind_some]
  cases h : tI p c with
  | none => rfl
  | some x =>
    simp only [Bool.not_true, Bool.false_eq_true, if_false]
    have d := Ih h
    have i : (rO p c).length ≤ p.bP.length := List.length_filter_le _ _
    have := hp.Gs
    rw [I6 p hp c, Option.bind_some, G8 _ _ (by simp; omega)]
    exact Kd x.aI _ (hp.rel x d.1) (fun g b => by
      obtain ⟨a, ha, rfl⟩ := List.mem_map.1 b
      exact hp.Gl a (List.mem_filter.1 ha).1)
theorem CU (p : cR) (c : aB) : cE (iI p c).1 ≤ 64 := by
  have a : cE zT ≤ 64 := by rw [zT, cE, nodesL]; omega
  have b : ∀ (l : List Formula) (t : Formula × Int), cE t.1 ≤ 64 → cE (iC t l).1 ≤ 64 := by
    intro l
    induction l with
    | nil => intro t h; exact h
    | cons g l ih =>
      intro t h
      rw [iC]
      split
      · exact ih _ rH
      · exact h
  unfold iI
  split
  · exact a
  · unfold uf
    split
    · exact b _ _ rH
    · exact a
theorem Er : ∀ (l : List Formula) (f : Formula) (e : Int), (iC (f, e) l).2 = 0 → e = 0 ∧ (fS f = true → fS (iC (f, e) l).1 = true ∧ ∀ v, jg v (iC (f, e) l).1 = (jg v f && l.all (jg v)))
  | [], f, e, h => by rw [iC] at *; exact ⟨h, fun n => ⟨n, fun v => by simp⟩⟩
  | g :: l, f, e, h => by
    rw [iC] at *
    by_cases c : e = 0
    · simp only [c, if_true] at h ⊢
      cases a : pE ⟨2, 0, jf, [f, g]⟩ with
      | mk q e' =>
        rw [a] at h
        obtain ⟨k, m⟩ := Er l q e' h
        subst k
        obtain ⟨p, b, d⟩ := Hu a
        obtain ⟨i, j⟩ := m b
        refine ⟨trivial, fun _ => ⟨i, fun v => ?_⟩⟩
        rw [j v, d v, FA]
        simp [ns, Bool.and_assoc]
    · simp only [c, if_false] at h
theorem G4 {p : cR} {c : aB} (h : (iI p c).2 = 0) : fS (iI p c).1 = true ∧ ∃ x, tI p c = some x ∧ ∀ v, jg v (iI p c).1 = (jg v x.aI && (rO p c).all fun a => jg v a.aI) := by
  unfold iI at *
  cases g : tI p c with
  | none => rw [g] at h; simp at h
  | some x =>
    rw [g] at h
    simp only at h ⊢
    unfold uf at *
    by_cases b : (iC (pE x.aI) ((rO p c).map (·.aI))).2 = 0
    · simp only [b, if_true] at h ⊢
      cases d : pE x.aI with
      | mk q e =>
        rw [d] at b
        obtain ⟨m, n⟩ := Er _ q e b
        subst m
        obtain ⟨r, i, j⟩ := Hu d
        obtain ⟨k, l⟩ := n i
        refine ⟨k, x, rfl, fun v => ?_⟩
        rw [l v, j v, List.all_map]
        rfl
    · simp only [b, if_false] at h
def vF (F : List aV) (peer : ByteArray) (r : aA) : Bool := eP uJ F ⟨r, peer⟩
theorem JI {l : List aB} {F : List aV} (h : Iw l F) (peer : ByteArray) : ∃ m, ov l peer = some m ∧ ∀ r, jk r m.1 m.2.1 m.2.2.1 m.2.2.2.1 m.2.2.2.2.1 m.2.2.2.2.2.1 m.2.2.2.2.2.2 = some (vF F peer r) := by
  obtain ⟨m, e, _, a⟩ := h.Nh
  unfold ov
  rw [e, Option.bind_some]
  refine ⟨_, rfl, fun r => ?_⟩
  unfold jk
  rw [gh]
  exact a r peer
noncomputable def tw (p : cR) (v : aA → Bool) (x : cI) : Bool := decide ((iI p x.Signed.aB).2 = 0) && tJ v (iI p x.Signed.aB).1
theorem wu (p : cR) (hp : PB p) (v : aA → Bool) (m) (a : ∀ r, jk r m.1 m.2.1 m.2.2.1 m.2.2.2.1 m.2.2.2.2.1 m.2.2.2.2.2.1 m.2.2.2.2.2.2 = some (v r)) : ∀ (l : List cI) (acc : List aB), acc.length + l.length ≤ 1000000000 →
    kf p m l acc = nP (acc ++ (l.filter (tw p v)).map (·.Signed.aB))
  | [], acc, _ => by
    rw [kf, List.filter_nil, List.map_nil, List.append_nil, gh]
  | x :: l, acc, h => by
    rw [List.length_cons] at h
    have b := CU p x.Signed.aB
    rw [kf, Lr p hp, Option.bind_some, Ki v _ a _ (by unfold Gd; omega), List.filter_cons]
    unfold tw
    by_cases c : (iI p x.Signed.aB).2 = 0
    · simp only [c, beq_self_eq_true, if_true, decide_true, Bool.true_and, Option.bind_some]
      cases d : tJ v (iI p x.Signed.aB).1
      · simp only [Bool.false_eq_true, if_false]
        exact wu p hp v m a l acc (by omega)
      · simp only [if_true]
        rw [eW (by simp; omega) (by simp; omega), Option.bind_some, wu p hp v m a l _ (by simp; omega)]
        simp only [List.map_cons, List.append_assoc, List.cons_append, List.nil_append]
        rfl
    · have e : ((iI p x.Signed.aB).2 == 0) = false := by simpa using c
      simp only [e, Bool.false_eq_true, if_false, c, decide_false, Bool.false_and, Option.bind_some]
      exact wu p hp v m a l acc (by omega)
theorem JG (p : cR) (hp : PB p) {l : List aB} {F : List aV} (h : Iw l F) (peer : ByteArray) : ∃ s, jA p l peer = some s ∧ Ev ((p.aT.filter (tw p (vF F peer))).map (·.Signed.aB)) s := by
  obtain ⟨m, e, a⟩ := JI h peer
  have := hp.Bk
  unfold jA
  rw [e, Option.bind_some, wu p hp _ m a p.aT [] (by simp; omega), List.nil_append]
  have b : (p.aT.filter (tw p (vF F peer))).length ≤ p.aT.length := List.length_filter_le _ _
  exact GH _ (by simp; omega)
end Go.Proofs.YtmlncblocfcmiaaGreat
namespace Go.Proofs.YtmlncblocfcmiaaGreat
open Go.RowKit
structure PG (p : cR) : Prop extends PB p where
  M9 : ∀ x ∈ p.aT, rl x.Signed.aB ≤ 1000000000
  M7 : ∀ a ∈ p.bP, ∀ c ∈ a.eQ, rl c ≤ 1000000000
end Go.Proofs.YtmlncblocfcmiaaGreat
namespace Go.Proofs.YtmlncblocfcmiaaGreat
open Go.RowKit
def gX : aA := ⟨⟨#[120]⟩, ⟨#[121]⟩⟩
def gc : aB := ⟨1, gX, ⟨#[109, 101]⟩, ⟨zS, zS⟩, ⟨zS, zS⟩, zS⟩
theorem KQ {f : Formula} (h : f.Op = 1) : iK f = f := by rw [rA, if_pos h]
end Go.Proofs.YtmlncblocfcmiaaGreat
namespace Go.Proofs.YtmlncblocfcmiaaGreat
open Go.RowKit
noncomputable def vD (l : List aB) (peer : ByteArray) (r : aA) : Bool := @decide (ir (l.filter dS) ⟨r, peer⟩) (Classical.propDecidable _)
theorem Bn (l : List aB) (peer : ByteArray) (r : aA) : vD l peer r = true ↔ ir (l.filter dS) ⟨r, peer⟩ := by unfold vD; simp
theorem J6 {l m : List aB} (h : ∀ c ∈ l, c ∈ m) (peer : ByteArray) (r : aA) (b : vD l peer r = true) : vD m peer r = true := by
  rw [Bn] at *
  exact b.mono (fun c a => by rw [List.mem_filter] at *; exact ⟨h c a.1, a.2⟩)
theorem Mm (l : List aB) (h : l.length ≤ 1000000) (peer : ByteArray) : ∃ m, ov l peer = some m ∧ ∀ r, jk r m.1 m.2.1 m.2.2.1 m.2.2.2.1 m.2.2.2.2.1 m.2.2.2.2.2.1 m.2.2.2.2.2.2 = some (vD l peer r) := by
  obtain ⟨C, T, us, ws, n, e, m, d, _⟩ := GG l h
  unfold ov
  rw [e, Option.bind_some]
  refine ⟨_, rfl, fun r => ?_⟩
  unfold jk
  rw [gh]
  obtain ⟨b, a, g⟩ := Hb m C us ws [] n r peer
  rw [a]
  congr 1
  rw [Bool.eq_iff_iff, g, Bn]
  exact ir.congr (fun c => by rw [d, List.mem_filter]) _
noncomputable def EM (p : cR) (v : aA → Bool) (c : aB) : Bool := decide ((iI p c).2 = 0) && tJ v (iI p c).1
theorem Iy {p : cR} {v w : aA → Bool} (h : ∀ r, v r = true → w r = true) (c : aB) (a : EM p v c = true) : EM p w c = true := by
  unfold EM tJ at *
  simp only [Bool.and_eq_true, decide_eq_true_eq] at *
  exact ⟨a.1, a.2.1, J3 h _ a.2.2⟩
def gr (s : List aB) : Prop := s.Pairwise (fun a b => uT a b = true) ∧ ∀ c ∈ s, dS c = true
theorem gr.nodup {s : List aB} (h : gr s) : s.Nodup := nS vv h.2 h.1
theorem gr.le {s t : List aB} (h : gr s) (a : ∀ c ∈ s, c ∈ t) : s.length ≤ t.length := eG h.nodup a
theorem gr.ext {s t : List aB} (h : gr s) (k : gr t) (b : ∀ c, c ∈ s ↔ c ∈ t) : s = t :=
  oM.unique vv (l := t) ⟨h.1, fun x => ⟨fun a => ⟨(b x).1 a, h.2 x a⟩, fun a => (b x).2 a.1⟩⟩ ⟨k.1, fun x => ⟨fun a => ⟨a, k.2 x a⟩, fun a => a.1⟩⟩
theorem gr.eq {s t : List aB} (h : gr s) (k : gr t) (b : ∀ c ∈ s, c ∈ t) (i : t.length ≤ s.length) : s = t := by
  refine h.ext k fun c => ⟨b c, fun d => ?_⟩
  refine Classical.byContradiction fun g => ?_
  have := eG (l := c :: s) (m := t) (List.nodup_cons.2 ⟨g, h.nodup⟩) (fun x a => by
    rcases List.mem_cons.1 a with rfl | a
    · exact d
    · exact b x a)
  simp at this; omega
theorem gr.nil : gr [] := ⟨by simp, by simp⟩
theorem gr.filter {s : List aB} (h : gr s) (p : aB → Bool) : gr (s.filter p) := ⟨h.1.filter _, fun c a => h.2 c (List.mem_filter.1 a).1⟩
def tL (p : cR) (c : aB) : Prop := ∃ x ∈ p.aT, x.Signed.aB = c
def gx (p : cR) (l : List aB) (peer : ByteArray) (c : aB) : Prop := tL p c ∧ dS c = true ∧ EM p (vD l peer) c = true
theorem mO {p : cR} {l m : List aB} (h : ∀ c ∈ l, c ∈ m) {peer : ByteArray} {c : aB} (a : gx p l peer c) : gx p m peer c := ⟨a.1, a.2.1, Iy (J6 h peer) c a.2.2⟩
theorem kR {p : cR} {s : List aB} (h : gr s) (b : ∀ c ∈ s, tL p c) : s.length ≤ p.aT.length := by
  have := h.le (t := p.aT.map (·.Signed.aB)) (fun c a => by obtain ⟨x, d, e⟩ := b c a; exact List.mem_map.2 ⟨x, d, e⟩)
  simpa using this
theorem vq (p : cR) (hp : PB p) (l : List aB) (n : l.length ≤ 1000000) (peer : ByteArray) : ∃ s, jA p l peer = some s ∧ gr s ∧ (∀ c, c ∈ s ↔ gx p l peer c) ∧ s.length ≤ p.aT.length := by
  obtain ⟨m, e, q⟩ := Mm l n peer
  have := hp.Bk
  unfold jA
  rw [e, Option.bind_some, wu p hp _ m q p.aT [] (by simp; omega), List.nil_append]
  have r : (p.aT.filter (tw p (vD l peer))).length ≤ p.aT.length := List.length_filter_le _ _
  obtain ⟨s, j, a⟩ := GH ((p.aT.filter (tw p (vD l peer))).map (·.Signed.aB)) (by simp; omega)
  have i : gr s := ⟨a.1, fun c d => ((a.2 c).1 d).2⟩
  have hm : ∀ c, c ∈ s ↔ gx p l peer c := fun c => by
    rw [a.2, List.mem_map]
    constructor
    · rintro ⟨⟨x, h, rfl⟩, g⟩
      obtain ⟨k, b⟩ := List.mem_filter.1 h
      exact ⟨⟨x, k, rfl⟩, g, b⟩
    · rintro ⟨⟨x, h, rfl⟩, g, b⟩
      exact ⟨⟨x, List.mem_filter.2 ⟨h, b⟩, rfl⟩, g⟩
  exact ⟨s, j, i, hm, kR i (fun c d => ((hm c).1 d).1)⟩
structure ER (a b : cR) (x y : List aB) : Prop where
  sx : gr x
  sy : gr y
  fx : ∀ c, c ∈ x ↔ gx a y b.Name c
  fy : ∀ c, c ∈ y ↔ gx b x a.Name c
  least : ∀ X Y : List aB, (∀ c, gx a Y b.Name c → c ∈ X) → (∀ c, gx b X a.Name c → c ∈ Y) → (∀ c ∈ x, c ∈ X) ∧ (∀ c ∈ y, c ∈ Y)
theorem ER.lx {a b : cR} {x y : List aB} (h : ER a b x y) : x.length ≤ a.aT.length := kR h.sx (fun c d => ((h.fx c).1 d).1)
theorem ER.ly {a b : cR} {x y : List aB} (h : ER a b x y) : y.length ≤ b.aT.length := kR h.sy (fun c d => ((h.fy c).1 d).1)
theorem CM (a b : cR) (ha : PB a) (w : PB b) (la : a.aT.length ≤ 600000) (lb : b.aT.length ≤ 600000) : ∀ (n : Nat) (x y : List aB) (i : Int), gr x → gr y → (∀ c ∈ x, gx a y b.Name c) → (∀ c ∈ y, gx b x a.Name c) →
    (∀ X Y : List aB, (∀ c, gx a Y b.Name c → c ∈ X) → (∀ c, gx b X a.Name c → c ∈ Y) → (∀ c ∈ x, c ∈ X) ∧ (∀ c ∈ y, c ∈ Y)) → a.aT.length + b.aT.length < n + x.length + y.length →
    ∃ z A j, iU a b n x y i = some (z, A, j) ∧ ER a b z A
  | 0, x, y, i, sx, sy, g, k, hm, L => by
    have I := kR sx (fun c d => (g c d).1)
    have J := kR sy (fun c d => (k c d).1)
    omega
  | n + 1, x, y, i, sx, sy, g, k, hm, L => by
    have I := kR sx (fun c d => (g c d).1)
    have J := kR sy (fun c d => (k c d).1)
    obtain ⟨p, D, sp, mp, Q⟩ := vq a ha y (by omega) b.Name
    obtain ⟨q, E, sq, l, R⟩ := vq b w x (by omega) a.Name
    have r : ∀ c ∈ x, c ∈ p := fun c d => (mp c).2 (g c d)
    have s : ∀ c ∈ y, c ∈ q := fun c d => (l c).2 (k c d)
    have O := sx.le r
    have P := sy.le s
    rw [iU, D, Option.bind_some, E, Option.bind_some]
    by_cases m : p.length = x.length ∧ q.length = y.length
    · have e : ((if (((p.length : Int)) == ((x.length : Int))) then some ((((q.length : Int)) == ((y.length : Int)))) else some false) : Option Bool) = some true := by
        rw [m.1, m.2]; simp
      rw [e]
      simp only [Option.bind_some, if_true]
      obtain rfl := sx.eq sp r (by omega)
      obtain rfl := sy.eq sq s (by omega)
      exact ⟨_, _, _, rfl, sx, sy, mp, l, hm⟩
    · have e : ((if (((p.length : Int)) == ((x.length : Int))) then some ((((q.length : Int)) == ((y.length : Int)))) else some false) : Option Bool) = some false := by
        by_cases t : p.length = x.length
        · have M : ¬ q.length = y.length := fun h => m ⟨t, h⟩
          simp [t]; omega
        · have : ¬ ((p.length : Int) = (x.length : Int)) := by omega
          simp [this]
      rw [e]
      simp only [Option.bind_some, Bool.false_eq_true, if_false]
      refine CM a b ha w la lb n p q _ sp sq (fun c d => mO s ((mp c).1 d)) (fun c d => mO r ((l c).1 d)) (fun X Y u v => ?_) (by omega)
      obtain ⟨F, G⟩ := hm X Y u v
      exact ⟨fun c d => u c (mO G ((mp c).1 d)), fun c d => v c (mO F ((l c).1 d))⟩
theorem HH (a b : cR) (ha : PB a) (d : PB b) (la : a.aT.length ≤ 600000) (lb : b.aT.length ≤ 600000) : ∃ x y j, qS a b = some (x, y, j) ∧ ER a b x y :=
  CM a b ha d la lb bL [] [] 0 gr.nil gr.nil (by simp) (by simp) (fun _ _ _ _ => by simp) (by rw [eE]; simp; omega)
theorem xq (a b : List aB) (ha : a.length ≤ 1000000) : pZ a b = some (a.filter (eP bT b)) := by
  unfold pZ
  rw [D4 (by omega)]
  simp only [Option.bind_some, gh]
  rw [Ah, wS _ (fun c => !eP bT b c) zC a (by omega) (fun c _ => by unfold pK km; rw [gh, Aq]; rfl)]
  simp only [Bool.not_not]
theorem CS (a b : List aB) (ha : a.length ≤ 1000000) : pf a b = some (a.filter fun c => !eP bT b c) := by
  unfold pf
  rw [D4 (by omega)]
  simp only [Option.bind_some, gh]
  rw [Ah, wS _ (fun c => eP bT b c) zC a (by omega) (fun c _ => by unfold oF km; rw [gh, gh, Aq])]
theorem zy (p : cR) (hp : p.aT.length ≤ 600000) : ∃ s, nT p = some s ∧ gr s ∧ ∀ c, c ∈ s ↔ tL p c ∧ dS c = true := by
  have a : ∀ (l : List cI) (acc : List aB), acc.length + l.length ≤ 1000000000 → iY l acc = nP (acc ++ l.map (·.Signed.aB)) := by
    intro l
    induction l with
    | nil => intro acc _; rw [iY, List.map_nil, List.append_nil, gh]
    | cons x l ih =>
      intro acc h
      rw [List.length_cons] at h
      rw [iY, eW (by simp; omega) (by simp; omega), Option.bind_some, ih _ (by simp; omega)]
      simp
  unfold nT
  rw [a _ _ (by simp; omega), List.nil_append]
  obtain ⟨s, e, h⟩ := GH (p.aT.map (·.Signed.aB)) (by simp; omega)
  refine ⟨s, e, ⟨h.1, fun c b => ((h.2 c).1 b).2⟩, fun c => ?_⟩
  rw [h.2, List.mem_map]
  exact Iff.rfl
structure AN (p : fK) (a b : List aB) : Prop where
  sa : gr a
  sb : gr b
  fa : ∀ c ∈ a, gx p.aC b p.Client.Name c
  fb : ∀ c ∈ b, gx p.Client a p.aC.Name c
  sL : ∀ X Y : List aB, gr X → gr Y → (∀ c ∈ X, gx p.aC Y p.Client.Name c) → (∀ c ∈ Y, gx p.Client X p.aC.Name c) → (∀ c ∈ X, c ∈ a) ∧ (∀ c ∈ Y, c ∈ b)
theorem AZ {α : Type} (p : α → Bool) (l : List α) (h : (l.filter p).length = l.length) : ∀ x ∈ l, p x = true := by
  have := List.filter_sublist (l := l) (p := p)
  have e := this.eq_of_length h
  intro x a
  rw [← e] at a
  exact (List.mem_filter.1 a).2
theorem Ej (p : fK) (ha : PB p.aC) (r : PB p.Client) (la : p.aC.aT.length ≤ 600000) (lb : p.Client.aT.length ≤ 600000) : ∀ (n : Nat) (x y : List aB), gr x → gr y → x.length ≤ 600000 → y.length ≤ 600000 →
    (∀ X Y : List aB, gr X → gr Y → (∀ c ∈ X, gx p.aC Y p.Client.Name c) → (∀ c ∈ Y, gx p.Client X p.aC.Name c) → (∀ c ∈ X, c ∈ x) ∧ (∀ c ∈ Y, c ∈ y)) → x.length + y.length < n →
    ∃ a b, gQ p n x y = some (a, b) ∧ AN p a b
  | 0, x, y, sx, sy, lx, ly, hm, A => by omega
  | n + 1, x, y, sx, sy, lx, ly, hm, A => by
    obtain ⟨f, u, L, s, I⟩ := vq p.aC ha y (by omega) p.Client.Name
    obtain ⟨g, v, sg, t, J⟩ := vq p.Client r x (by omega) p.aC.Name
    have F := List.length_filter_le (eP bT f) x
    have G := List.length_filter_le (eP bT g) y
    rw [gQ, u, Option.bind_some, xq x f (by omega), Option.bind_some, v, Option.bind_some, xq y g (by omega), Option.bind_some]
    by_cases i : (x.filter (eP bT f)).length = x.length ∧ (y.filter (eP bT g)).length = y.length
    · have e : ((if ((((x.filter (eP bT f)).length : Int)) == ((x.length : Int))) then some (((((y.filter (eP bT g)).length : Int)) == ((y.length : Int)))) else some false) : Option Bool) = some true := by
        rw [i.1, i.2]; simp
      rw [e]
      simp only [Option.bind_some, if_true]
      have w := AZ _ _ i.1
      have z := AZ _ _ i.2
      exact ⟨x, y, rfl, sx, sy, fun c d => (s c).1 ((mw eU f c).1 (w c d)), fun c d => (t c).1 ((mw eU g c).1 (z c d)), hm⟩
    · have e : ((if ((((x.filter (eP bT f)).length : Int)) == ((x.length : Int))) then some (((((y.filter (eP bT g)).length : Int)) == ((y.length : Int)))) else some false) : Option Bool) = some false := by
        by_cases j : (x.filter (eP bT f)).length = x.length
        · have E : ¬ (y.filter (eP bT g)).length = y.length := fun h => i ⟨j, h⟩
          rw [j]
          simp only [beq_self_eq_true, if_true]
          congr 1
          rw [beq_eq_false_iff_ne]; omega
        · have : (((x.filter (eP bT f)).length : Int) == (x.length : Int)) = false := by rw [beq_eq_false_iff_ne]; omega
          simp only [this, Bool.false_eq_true, if_false]
      rw [e]
      simp only [Option.bind_some, Bool.false_eq_true, if_false]
      refine Ej p ha r la lb n _ _ (sx.filter _) (sy.filter _) (by omega) (by omega) (fun X Y D sY m q => ?_) (by omega)
      obtain ⟨k, l⟩ := hm X Y D sY m q
      refine ⟨fun c d => List.mem_filter.2 ⟨k c d, ?_⟩, fun c d => List.mem_filter.2 ⟨l c d, ?_⟩⟩
      · rw [mw eU, s]; exact mO l (m c d)
      · rw [mw eU, t]; exact mO k (q c d)
theorem Iu (p : fK) (ha : PB p.aC) (m : PB p.Client) (la : p.aC.aT.length ≤ 600000) (lb : p.Client.aT.length ≤ 600000) : ∃ a b, iS p = some (a, b) ∧ AN p a b := by
  obtain ⟨x, i, sx, g⟩ := zy p.aC la
  obtain ⟨y, j, sy, h⟩ := zy p.Client lb
  have q := kR sx (fun c d => ((g c).1 d).1)
  have r := kR sy (fun c d => ((h c).1 d).1)
  unfold iS
  rw [i, Option.bind_some, j, Option.bind_some]
  exact Ej p ha m la lb bL x y sx sy (by omega) (by omega) (fun X Y n sY k l => ⟨fun c d => (g c).2 ⟨(k c d).1, n.2 c d⟩, fun c d => (h c).2 ⟨(l c d).1, sY.2 c d⟩⟩) (by rw [eE]; omega)
theorem AN.la {p : fK} {a b : List aB} (h : AN p a b) : a.length ≤ p.aC.aT.length := kR h.sa (fun c d => (h.fa c d).1)
theorem AN.lb {p : fK} {a b : List aB} (h : AN p a b) : b.length ≤ p.Client.aT.length := kR h.sb (fun c d => (h.fb c d).1)
theorem xg (p : fK) (ha : PB p.aC) (i : PB p.Client) (la : p.aC.aT.length ≤ 600000) (lb : p.Client.aT.length ≤ 600000) : ∃ a b x y j, iS p = some (a, b) ∧ AN p a b ∧ qS p.aC p.Client = some (x, y, j) ∧ ER p.aC p.Client x y ∧ kF p = some (a.filter fun c => !eP bT x c, b.filter fun c => !eP bT y c) := by
  obtain ⟨a, b, g, d⟩ := Iu p ha i la lb
  obtain ⟨x, y, j, h, k⟩ := HH p.aC p.Client ha i la lb
  have l := d.la
  have m := d.lb
  refine ⟨a, b, x, y, j, g, d, h, k, ?_⟩
  unfold kF
  rw [g, Option.bind_some, h, Option.bind_some]
  simp only
  rw [CS a x (by omega), Option.bind_some, CS b y (by omega), Option.bind_some]
end Go.Proofs.YtmlncblocfcmiaaGreat
namespace Go.Proofs.YtmlncblocfcmiaaGreat
open Go.RowKit
def nU : Formula := ⟨2, 0, jf, []⟩
def sr (c : aB) : List cI → List cI
  | [] => []
  | x :: l => if bT x.Signed.aB c then ⟨x.Signed, nU⟩ :: l else x :: sr c l
theorem CY (c : aB) : ∀ (A : List cI) (x : cI) (B : List cI), (∀ y ∈ A, bT y.Signed.aB c = false) → bT x.Signed.aB c = true → sr c (A ++ x :: B) = A ++ ⟨x.Signed, nU⟩ :: B
  | [], x, B, _, h => by rw [List.nil_append, sr, h]; rfl
  | y :: A, x, B, a, h => by
    rw [List.cons_append, sr, a y (by simp), CY c A x B (fun z b => a z (by simp [b])) h]; rfl
theorem G0 (c : aB) (l : List cI) (h : ∃ x ∈ l, x.Signed.aB = c) : ∃ (i : Nat) (x : cI), fl l (fun y => iM y c) = some (i : Int) ∧ dU l (i : Int) = some x ∧ l.set i ⟨x.Signed, nU⟩ = sr c l := by
  unfold fl
  rw [xn]
  rcases sQ (fun y => iM y c) (fun y => bT y.Signed.aB c) l 0 (fun x _ => rfl) with ⟨e, a⟩ | ⟨A, x, B, hp, a, b, e⟩
  · obtain ⟨x, d, rfl⟩ := h
    have := a x d
    rw [eU.2 rfl] at this; cases this
  · rw [Nat.zero_add] at e
    refine ⟨A.length, x, e, by rw [hp]; exact fj A x B _ rfl, ?_⟩
    rw [hp, CY c A x B a b, List.set_append_right _ _ (Nat.le_refl _)]
    simp
theorem Lc (P : fK) (c : aB) (m : P.Client.aT.length ≤ 600000) (h : tL P.Client c) : jC P 1 c = some (⟨P.aC, ⟨P.Client.Name, sr c P.Client.aT, P.Client.bP⟩, P.Formula, P.mj, P.fg, P.gl, P.jD, P.ig, P.Keys⟩, true) := by
  obtain ⟨i, x, a, b, d⟩ := G0 c P.Client.aT h
  unfold jC
  have g : ¬ ((1 : Int) < 0) := by omega
  have j : ¬ ((1 : Int) ≥ 2) := by omega
  have l : ((1 : Int) == 0) = false := rfl
  simp only [g, j, l, decide_false, Bool.false_eq_true, if_false, Option.bind_some, beq_self_eq_true, if_true]
  rw [a, Option.bind_some]
  have k : ¬ ((i : Int) < 0) := by omega
  simp only [k, decide_false, Bool.false_eq_true, if_false]
  unfold jm
  rw [eW (by simp; omega) (by simp; omega)]
  simp only [Option.bind_some, List.nil_append]
  rw [b, Option.bind_some, Int.toNat_natCast]
  rw [show (⟨x.Signed, (⟨2, 0, (⟨zS, zS⟩ : aA), []⟩ : Formula)⟩ : cI) = ⟨x.Signed, nU⟩ from rfl, d]
  have eta : (⟨P.Formula.Op, P.Formula.K, P.Formula.aA, P.Formula.Kids⟩ : Formula) = P.Formula := by cases P.Formula; rfl
  rw [eta]
theorem Ig (P : fK) (c : aB) (h : ¬ tL P.aC c) : jC P 0 c = some (P, false) := by
  unfold jC fl
  have d : ¬ ((0 : Int) < 0) := by omega
  have g : ¬ ((0 : Int) ≥ 2) := by omega
  simp only [d, g, decide_false, Bool.false_eq_true, if_false, Option.bind_some, beq_self_eq_true, if_true]
  rw [xn]
  rcases sQ (fun y => iM y c) (fun y => bT y.Signed.aB c) P.aC.aT 0 (fun x _ => rfl) with ⟨e, a⟩ | ⟨A, x, B, hp, a, b, e⟩
  · rw [e]; rfl
  · exact absurd ⟨x, by rw [hp]; simp, eU.1 b⟩ h
def GU (l : List cI) (d : aB) : Option Formula := (l.find? fun x => bT x.Signed.aB d).map (·.aI)
theorem HP (n : ByteArray) (l : List cI) (k : List gM) (c : aB) : tL ⟨n, l, k⟩ c ↔ c ∈ l.map (·.Signed.aB) := by
  unfold tL; rw [List.mem_map]
theorem xV (n : ByteArray) (l : List cI) (c : aB) : iI ⟨n, l, []⟩ c = match GU l c with | none => (zT, 42) | some r => uf r [] := by
  unfold iI tI GU rO
  simp only
  cases l.find? (fun x => bT x.Signed.aB c) <;> rfl
theorem Jz : uf nU [] = (nU, 0) := by
  have a : fS nU = true := by decide +kernel
  have g : iK nU = nU := by
    rw [rA]
    have b : ¬ (nU.Op = 1) := by decide
    have d : ¬ (nU.Op = 4) := by decide
    simp only [b, d, if_false]
    rw [show nU.Kids = [] from rfl, shapeL]
    unfold iF
    rw [gv]
    rfl
  have h : pE nU = (nU, 0) := by unfold pE; rw [a, g, a]; rfl
  unfold uf
  rw [h, iC]; rfl
structure PP (p : fK) : Prop where
  o : PG p.aC
  c : PG p.Client
  lo : p.aC.aT.length ≤ 600000
  lc : p.Client.aT.length ≤ 600000
  f : cE p.Formula ≤ 10000000
end Go.Proofs.YtmlncblocfcmiaaGreat
namespace Go.Proofs.YtmlncblocfcmiaaGreat
open Go.RowKit
def GQ : ByteArray := ⟨#[111, 119, 110]⟩
def GC : ByteArray := ⟨#[99, 108, 105]⟩
def sY : aA := ⟨⟨#[120]⟩, ⟨#[121]⟩⟩
def sZ : aA := ⟨⟨#[120]⟩, ⟨#[122]⟩⟩
def sc : aB := ⟨1, sY, GC, ⟨zS, zS⟩, ⟨zS, zS⟩, zS⟩
def sd : aB := ⟨1, sZ, GQ, ⟨zS, zS⟩, ⟨zS, zS⟩, zS⟩
def gT (r : aA) : Formula := ⟨1, 0, r, []⟩
def pN (c : aB) (f : Formula) : cI := ⟨⟨c, List.replicate 8 0⟩, f⟩
def sO : cR := ⟨GQ, [pN sd (gT sY)], []⟩
def sC (f : Formula) : cR := ⟨GC, [pN sc f], []⟩
theorem FH : dS sc = true := by decide +kernel
theorem Ha : dS sd = true := by decide +kernel
theorem Nj : sc ≠ sd := fun h => absurd (congrArg (fun c => c.cH.data.toList) h) (by decide)
theorem FZ (v : aA → Bool) (r : aA) : jg v (gT r) = v r := by rw [pd]; rfl
theorem FY {r : aA} (h : fS (gT r) = true) : uf (gT r) [] = (gT r, 0) := by
  have a : pE (gT r) = (gT r, 0) := by unfold pE; rw [h, KQ rfl, h]; rfl
  unfold uf
  rw [a, iC]; rfl
theorem Ct (c d : aB) (f : Formula) : GU [pN c f] d = if bT c d then some f else none := by
  unfold GU
  rw [List.find?a, show (pN c f).Signed.aB = c from rfl]
  cases bT c d <;> rfl
theorem vP {n : ByteArray} {c d : aB} {f : Formula} : tL ⟨n, [pN c f], []⟩ d ↔ d = c := by
  rw [HP]; show d ∈ [c] ↔ _; simp
theorem yG {n : ByteArray} {c : aB} {r : aA} (a : fS (gT r) = true) (b : dS c = true) (l : List aB) (peer : ByteArray) (d : aB) : gx ⟨n, [pN c (gT r)], []⟩ l peer d ↔ d = c ∧ vD l peer r = true := by
  unfold gx
  rw [vP]
  constructor
  · rintro ⟨rfl, _, h⟩
    refine ⟨rfl, ?_⟩
    unfold EM at h
    rw [xV, Ct, if_pos (eU.2 rfl)] at h
    simp only [FY a] at h
    unfold tJ at h
    rw [a, FZ, Bool.true_and] at h
    exact h
  · rintro ⟨rfl, h⟩
    refine ⟨rfl, b, ?_⟩
    unfold EM
    rw [xV, Ct, if_pos (eU.2 rfl)]
    simp only [FY a]
    unfold tJ
    rw [a, FZ, Bool.true_and]
    exact h
theorem Is {n : ByteArray} {c : aB} (a : dS c = true) (l : List aB) (peer : ByteArray) (d : aB) : gx ⟨n, [pN c nU], []⟩ l peer d ↔ d = c := by
  unfold gx
  rw [vP]
  constructor
  · exact fun h => h.1
  · rintro rfl
    refine ⟨rfl, a, ?_⟩
    unfold EM
    rw [xV, Ct, if_pos (eU.2 rfl)]
    simp only [Jz]
    unfold tJ
    rw [show fS nU = true by decide +kernel, pd]
    rfl
theorem EF {c : aB} (a : dS c = true) (b : c.Kind = 1) {l : List aB} (h : c ∈ l) : vD l c.cH c.Head = true := by
  rw [Bn]
  exact .mem c (List.mem_filter.2 ⟨h, a⟩) b
theorem HU (peer : ByteArray) (r : aA) : vD [] peer r = false := by
  rw [← Bool.not_eq_true, Bn]
  intro h
  obtain ⟨c, a, _⟩ := h.head
  cases a
theorem AP {n : ByteArray} {c : aB} {f : Formula} (h : cE f ≤ 10000000) : PB ⟨n, [pN c f], []⟩ where
  Bk := by simp
  Gs := by simp
  rel := fun x a => by obtain rfl := List.mem_singleton.1 a; exact h
  Gl := fun x a => by cases a
  ME := fun x a => by cases a
theorem Ca {c : aB} (a : dS c = true) : gr [c] := ⟨by simp, fun x b => by obtain rfl := List.mem_singleton.1 b; exact a⟩
theorem G2 {s : List aB} {c : aB} (g : gr s) (a : ∀ x ∈ s, x = c) (b : c ∈ s) (d : dS c = true) : s = [c] :=
  g.ext (Ca d) (fun x => by
    rw [List.mem_singleton]
    exact ⟨a x, fun e => by rw [e]; exact b⟩)
theorem HT : fS (gT sY) = true := by decide +kernel
theorem KT : fS (gT sZ) = true := by decide +kernel
def sP (f : Formula) : fK := ⟨sO, sC f, ⟨0, 0, ⟨zS, zS⟩, []⟩, 0, ⟨0, 0⟩, 0, 0, 0, []⟩
theorem KE : iS (sP (gT sZ)) = some ([sd], [sc]) ∧ kF (sP (gT sZ)) = some ([sd], [sc]) := by
  obtain ⟨a, b, x, y, j, m, h, u, p, n⟩ := xg (sP (gT sZ)) (AP (by decide +kernel)) (AP (by decide +kernel)) (by simp [sP, sO]) (by simp [sP, sC])
  have k : ∀ l peer d, gx sO l peer d ↔ d = sd ∧ vD l peer sY = true := fun l peer d => yG HT Ha l peer d
  have i : ∀ l peer d, gx (sC (gT sZ)) l peer d ↔ d = sc ∧ vD l peer sZ = true := fun l peer d => yG KT FH l peer d
  have v1 : vD [sc] GC sY = true := EF FH rfl (by simp)
  have v2 : vD [sd] GQ sZ = true := EF Ha rfl (by simp)
  obtain ⟨q, r⟩ := h.sL [sd] [sc] (Ca Ha) (Ca FH)
    (fun c g => by obtain rfl := List.mem_singleton.1 g; exact (k _ _ _).2 ⟨rfl, v1⟩)
    (fun c g => by obtain rfl := List.mem_singleton.1 g; exact (i _ _ _).2 ⟨rfl, v2⟩)
  obtain rfl : a = [sd] := G2 h.sa (fun c g => ((k _ _ _).1 (h.fa c g)).1) (q sd (by simp)) Ha
  obtain rfl : b = [sc] := G2 h.sb (fun c g => ((i _ _ _).1 (h.fb c g)).1) (r sc (by simp)) FH
  obtain ⟨s, t⟩ := p.least [] [] (fun c g => by have := ((k _ _ _).1 g).2; rw [HU] at this; cases this) (fun c g => by have := ((i _ _ _).1 g).2; rw [HU] at this; cases this)
  obtain rfl : x = [] := List.eq_nil_iff_forall_not_mem.2 (fun c g => by have := s c g; cases this)
  obtain rfl : y = [] := List.eq_nil_iff_forall_not_mem.2 (fun c g => by have := t c g; cases this)
  exact ⟨m, n⟩
theorem Lx : js (sP nU) = some true := by
  obtain ⟨a, b, x, y, j, t, m, u, k, p⟩ := xg (sP nU) (AP (by decide +kernel)) (AP (by decide +kernel)) (by simp [sP, sO]) (by simp [sP, sC])
  have i : ∀ l peer d, gx sO l peer d ↔ d = sd ∧ vD l peer sY = true := fun l peer d => yG HT Ha l peer d
  have h : ∀ l peer d, gx (sC nU) l peer d ↔ d = sc := fun l peer d => Is FH l peer d
  have n : sc ∈ y := (k.fy sc).2 ((h _ _ _).2 rfl)
  have s : sd ∈ x := (k.fx sd).2 ((i _ _ _).2 ⟨rfl, EF FH rfl n⟩)
  have q : a.filter (fun c => !eP bT x c) = [] := by
    rw [List.filter_eq_nil_iff]
    intro c g
    rw [((i _ _ _).1 (m.fa c g)).1, (mw eU x sd).2 s]; simp
  have r : b.filter (fun c => !eP bT y c) = [] := by
    rw [List.filter_eq_nil_iff]
    intro c g
    rw [(h _ _ _).1 (m.fb c g), (mw eU y sc).2 n]; simp
  unfold js
  rw [p, Option.bind_some, q, r]
  rfl
theorem JM : oT = some true := by
  have g : yR 1 (0 : Int) 8 = some (List.replicate 8 0) := by unfold yR; rw [if_pos (by decide)]; rfl
  obtain ⟨i, d⟩ := KE
  have j : js (sP (gT sZ)) = some false := by
    unfold js
    rw [d]; rfl
  have p : jC (sP (gT sZ)) 1 sc = some (sP nU, true) := by
    rw [Lc (sP (gT sZ)) sc (by simp [sP, sC]) (by exact vP.2 rfl)]
    have : sr sc (sP (gT sZ)).Client.aT = [pN sc nU] := by
      show sr sc [pN sc (gT sZ)] = _
      rw [sr, show (pN sc (gT sZ)).Signed.aB = sc from rfl, eU.2 rfl]; rfl
    rw [this]; rfl
  have n : jC (sP (gT sZ)) 0 sc = some (sP (gT sZ), false) := Ig _ _ (fun h => Nj (vP.1 h))
  have k := Lx
  have hp : sP (gT sZ) = ⟨⟨GQ, [pN sd (gT sY)], []⟩, ⟨GC, [pN sc (gT sZ)], []⟩, ⟨0, 0, ⟨zS, zS⟩, []⟩, 0, ⟨0, 0⟩, 0, 0, 0, []⟩ := rfl
  have l : gU sd sY = some [pN sd (gT sY)] := by unfold gU; rw [g]; rfl
  have m : gU sc sZ = some [pN sc (gT sZ)] := by unfold gU; rw [g]; rfl
  unfold oT
  have a : gU ((⟨1, (⟨(⟨#[120]⟩ : ByteArray), (⟨#[122]⟩ : ByteArray)⟩ : aA), (⟨#[111, 119, 110]⟩ : ByteArray), (⟨zS, zS⟩ : aA), (⟨zS, zS⟩ : aA), zS⟩ : aB)) ((⟨(⟨#[120]⟩ : ByteArray), (⟨#[121]⟩ : ByteArray)⟩ : aA)) = _ := l
  have b : gU ((⟨1, (⟨(⟨#[120]⟩ : ByteArray), (⟨#[121]⟩ : ByteArray)⟩ : aA), (⟨#[99, 108, 105]⟩ : ByteArray), (⟨zS, zS⟩ : aA), (⟨zS, zS⟩ : aA), zS⟩ : aB)) ((⟨(⟨#[120]⟩ : ByteArray), (⟨#[122]⟩ : ByteArray)⟩ : aA)) = _ := m
  rw [a, Option.bind_some, b, Option.bind_some, Option.bind_some]
  simp only
  rw [show ((⟨⟨(⟨#[111, 119, 110]⟩ : ByteArray), [pN sd (gT sY)], []⟩, ⟨(⟨#[99, 108, 105]⟩ : ByteArray), [pN sc (gT sZ)], []⟩, ⟨0, 0, (⟨zS, zS⟩ : aA), []⟩, 0, (⟨0, 0⟩ : rF), 0, 0, 0, []⟩ : fK)) = sP (gT sZ) from rfl]
  rw [d, Option.bind_some, i, Option.bind_some]
  rw [show ((⟨1, (⟨(⟨#[120]⟩ : ByteArray), (⟨#[121]⟩ : ByteArray)⟩ : aA), (⟨#[99, 108, 105]⟩ : ByteArray), (⟨zS, zS⟩ : aA), (⟨zS, zS⟩ : aA), zS⟩ : aB)) = sc from rfl, p, Option.bind_some, n, Option.bind_some, j]
  simp only [List.length_cons, List.length_nil, Option.bind_some]
  rw [k]
  rfl
end Go.Proofs.YtmlncblocfcmiaaGreat
namespace Go.Proofs.YtmlncblocfcmiaaGreat
open Go.RowKit
theorem Ky : ∀ (n : Nat) (f : Formula), gm f ≤ n → Gd f → kG n f = some (cE f : Int) := by
  intro n
  induction n with
  | zero => intro f h; rw [eZ] at h; omega
  | succ n ih =>
    intro f g i
    rw [eZ] at g
    have b := gA f
    unfold Gd at i
    rw [kG]
    unfold pU
    have key : ∀ (ks : List Formula) (x : Nat), (∀ k ∈ ks, k ∈ f.Kids) → x + nodesL ks ≤ 50000000 → kU (kG n) ks (x : Int) = some ((x + nodesL ks : Nat) : Int) := by
      intro ks
      induction ks with
      | nil => intro x _ _; rw [kU, nodesL]; rfl
      | cons k ks d =>
        intro x a j
        rw [nodesL] at j
        rw [kU, ih k (by have := kz (a k (by simp)); omega) (by have := mN (a k (by simp)); unfold Gd; omega), Option.bind_some]
        have w : IntKind.i64.wrap ((x : Int) + (cE k : Int)) = ((x + cE k : Nat) : Int) := by rw [cP (by omega) (by omega)]; omega
        rw [w, d _ (fun z l => a z (by simp [l])) (by omega), nodesL]
        congr 2; omega
    have := key f.Kids 1 (fun k a => a) (by omega)
    rw [b]
    exact this
theorem LZ : ∀ (n : Nat) (f : Formula), gm f ≤ n → Gd f → lM n f = some (gm f : Int) := by
  intro n
  induction n with
  | zero => intro f h; rw [eZ] at h; omega
  | succ n ih =>
    intro f g i
    rw [eZ] at g ⊢
    have j := gA f
    have hle := qx f
    rw [eZ] at hle
    unfold Gd at i
    rw [lM]
    unfold qI
    have key : ∀ (ks : List Formula) (x : Nat), (∀ k ∈ ks, k ∈ f.Kids) → max x (deepL ks) ≤ 50000000 → mc (lM n) ks (x : Int) = some ((max x (deepL ks) + 1 : Nat) : Int) := by
      intro ks
      induction ks with
      | nil =>
        intro x _ b
        rw [deepL] at b
        rw [mc, deepL, cP (by omega) (by omega)]
        congr 1; omega
      | cons k ks d =>
        intro x a b
        rw [deepL] at b
        rw [mc, ih k (by have := kz (a k (by simp)); omega) (by have := mN (a k (by simp)); unfold Gd; omega), Option.bind_some]
        have w : (if (gm k : Int) > (x : Int) then (gm k : Int) else (x : Int)) = ((max x (gm k) : Nat) : Int) := by split <;> omega
        rw [w, d _ (fun z l => a z (by simp [l])) (by omega), deepL]
        congr 2; omega
    have := key f.Kids 0 (fun k a => a) (by omega)
    rw [Nat.zero_max] at this
    exact this
theorem LL : ∀ (n : Nat) (f : Formula), gm f ≤ n → lJ n f = some (mH f) := by
  intro n
  induction n with
  | zero => intro f h; rw [eZ] at h; omega
  | succ n ih =>
    intro f h
    rw [eZ] at h
    have key : ∀ ks : List Formula, (∀ k ∈ ks, k ∈ f.Kids) → ma (lJ n) ks = some (wellL ks) := by
      intro ks
      induction ks with
      | nil => intro _; rw [ma, wellL]
      | cons k ks y =>
        intro j
        rw [ma, ih k (by have := kz (j k (by simp)); omega), Option.bind_some, y (fun z F => j z (by simp [F])), wellL]
        cases mH k <;> rfl
    have j := key f.Kids (fun k j => j)
    rw [lJ]
    unfold qG
    rw [j, Av, uQ]
    unfold xk
    simp only [Option.bind_some]
    by_cases t : f.Op = 1
    · simp only [t, beq_self_eq_true, if_true]
      cases G : ey f.aA
      · simp
      · by_cases b : f.Kids.length = 0
        · have e : f.Kids = [] := List.eq_nil_of_length_eq_zero b
          by_cases x : f.K = 0 <;> simp [e, x, wellL]
        · have : ((f.Kids.length : Int) == 0) = false := by rw [beq_eq_false_iff_ne]; omega
          simp [this, b]
    · have E : (f.Op == 1) = false := by simpa using t
      simp only [E, Bool.false_eq_true, if_false, t]
      by_cases i : f.Op = 2 ∨ f.Op = 3
      · have q : ¬ f.Op < 1 := by omega
        have r : ¬ f.Op > 4 := by omega
        have s : f.Op < 4 := by omega
        have D : (f.Op == 4) = false := by rw [beq_eq_false_iff_ne]; omega
        simp only [q, r, s, D, i, decide_false, decide_true, Bool.false_eq_true, if_false, if_true, Option.bind_some]
        cases g : bB f.aA ⟨zS, zS⟩
        · simp [jf, g]
        · by_cases b : f.Kids.length ≤ 8
          · have d : ¬ ((f.Kids.length : Int) > 8) := by omega
            by_cases x : f.K = 0 <;> simp [jf, g, b, d, x]
          · have d : ((f.Kids.length : Int) > 8) := by omega
            simp [jf, g, b, d]
      · by_cases u : f.Op = 4
        · have q : ¬ f.Op < 1 := by omega
          have r : ¬ f.Op > 4 := by omega
          have s : ¬ f.Op < 4 := by omega
          simp only [q, r, s, i, decide_false, Bool.false_eq_true, if_false, Option.bind_some]
          simp only [u, beq_self_eq_true, if_true, decide_true, Bool.true_and]
          cases g : bB f.aA ⟨zS, zS⟩
          · simp [jf, g]
          · by_cases b : f.Kids.length ≤ 8
            · have d : ¬ ((f.Kids.length : Int) > 8) := by omega
              by_cases m : 1 ≤ f.Kids.length
              · have l : ¬ ((f.Kids.length : Int) < 1) := by omega
                by_cases v : 0 ≤ f.K
                · have p : ¬ f.K < 0 := by omega
                  by_cases A : f.K ≤ (f.Kids.length : Int)
                  · have w : ¬ f.K > (f.Kids.length : Int) := by omega
                    simp [jf, g, b, d, m, l, v, p, A, w]
                  · have w : f.K > (f.Kids.length : Int) := by omega
                    simp [jf, g, b, d, m, l, v, p, A, w]
                · have p : f.K < 0 := by omega
                  simp [jf, g, b, d, m, l, v, p]
              · have l : ((f.Kids.length : Int) < 1) := by omega
                simp [jf, g, b, d, m, l]
            · have d : ((f.Kids.length : Int) > 8) := by omega
              simp [jf, g, b, d]
        · have a : f.Op < 1 ∨ f.Op > 4 := by omega
          rcases a with a | a
          · simp [a, i, u]
          · have : ¬ f.Op < 1 := by omega
            simp [a, this, i, u]
theorem EQ (f : Formula) (h : Gd f) : kH f = some (fS f) := by
  have j := qx f
  have i := h
  unfold Gd at i
  unfold kH fS
  rw [Ky bL f (by rw [eE]; omega) h, LZ bL f (by rw [eE]; omega) h, LL bL f (by rw [eE]; omega)]
  simp only [Option.bind_some]
  by_cases b : cE f ≤ 64
  · have a : ((cE f : Int) ≤ 64) := by omega
    by_cases g : gm f ≤ 6
    · have d : ((gm f : Int) ≤ 6) := by omega
      simp [b, g, a, d]
    · have d : ¬ ((gm f : Int) ≤ 6) := by omega
      simp [b, g, a, d]
  · have a : ¬ ((cE f : Int) ≤ 64) := by omega
    simp [b, a]
end Go.Proofs.YtmlncblocfcmiaaGreat
namespace Go.Proofs.YtmlncblocfcmiaaGreat
open Go.RowKit
theorem Hf {f : Formula} (hw : mH f = true) (a : cE f ≤ 200) : (sE f).length ≤ 40 * cE f := (Hw (gm f) f (Nat.le_refl _) hw [] (by simp; omega)).2
theorem KH : ∀ (n : Nat) (f : Formula), gm f ≤ n → mH f = true → cE f ≤ 64 → iT n f = some (pB (sE f)) := by
  intro n
  induction n with
  | zero => intro f h; rw [eZ] at h; omega
  | succ n ih =>
    intro f u hw D
    rw [eZ] at u
    have w := gA f
    obtain ⟨y, q, j⟩ := qQ hw
    have d : 0 ≤ f.Op ∧ f.Op < 128 := by rcases j with h | h | h <;> omega
    have hlen : 0 ≤ (f.Kids.length : Int) ∧ (f.Kids.length : Int) < 128 := by omega
    have key : ∀ (ks : List Formula) (l : List Int), (∀ k ∈ ks, k ∈ f.Kids) → wellL ks = true → l.length + 40 * nodesL ks ≤ 8000 → nodesL ks ≤ 64 → lj (iT n) ks (pB l) = some (pB (l ++ bytesFL ks)) := by
      intro ks
      induction ks with
      | nil => intro l _ _ _ _; rw [lj, bytesFL, List.append_nil]
      | cons k ks p =>
        intro l a b v m
        rw [wellL, Bool.and_eq_true] at b
        rw [nodesL] at v m
        have A := Hf b.1 (by omega)
        rw [lj, ih k (by have := kz (a k (by simp)); omega) b.1 (by omega), Option.bind_some, lz _ _ (by omega), Option.bind_some,
          p _ (fun z x => a z (by simp [x])) b.2 (by simp; omega) (by omega), bytesFL, List.append_assoc]
    rw [iT]
    unfold qb
    rw [rC d.1 d.2, Option.bind_some, CX]
    by_cases g : f.Op = 1
    · have r : ey f.aA = true := by rcases j with h | h | h; exact h.2.1; omega; omega
      have := ic r
      simp only [g, beq_self_eq_true, if_true]
      rw [uI r, Option.bind_some, lz _ _ (by simp; omega)]
      rfl
    · have s : (f.Op == 1) = false := by simpa using g
      simp only [s, Bool.false_eq_true, if_false, g]
      by_cases i : f.Op = 4
      · have a : 0 ≤ f.K ∧ f.K < 128 := by rcases j with h | h | h <;> omega
        simp only [i, beq_self_eq_true, if_true]
        rw [rC a.1 a.2, Option.bind_some, lz _ _ (by simp), Option.bind_some, Option.bind_some, rC hlen.1 hlen.2, Option.bind_some, lz _ _ (by simp), Option.bind_some,
          key f.Kids _ (fun k a => a) q (by simp; omega) (by omega)]
        simp
      · have t : (f.Op == 4) = false := by simpa using i
        simp only [t, Bool.false_eq_true, if_false, i, Option.bind_some]
        rw [rC hlen.1 hlen.2, Option.bind_some, lz _ _ (by simp), Option.bind_some, key f.Kids _ (fun k a => a) q (by simp; omega) (by omega)]
        simp
theorem Mv (f : Formula) (h : Gd f) : ((kH f).bind fun r => if r then (iT bL f).bind fun a => some a else some zS) = some (pB (rG f)) := by
  rw [EQ f h, Option.bind_some]
  unfold rG
  cases g : fS f
  · rfl
  · obtain ⟨b, i, d⟩ := th g
    simp only [if_true]
    rw [KH bL f (by rw [eE]; omega) d b, gh]
theorem EI (f g : Formula) (i : Gd f) (j : Gd g) : ∃ c : Int, pJ f g = some c ∧ (c > 0 ↔ fT vk g f = true) := by
  unfold pJ
  rw [Mv f i, Option.bind_some, Mv g j, Option.bind_some, rL, nQ, nQ, uH]
  rcases vh (nt (rG f)) (nt (rG g)) with h | h | h
  · rw [if_pos h]
    refine ⟨-1, rfl, iff_of_false (by omega) (fun a => ?_)⟩
    have := rq _ _ _ h a
    rw [oz] at this; cases this
  · have e : dA (pB (rG f)) (pB (rG g)) = true := eB.2 (tM (by rw [nQ, nQ, h]))
    rw [h, oz, e]
    exact ⟨0, rfl, iff_of_false (by omega) (by simp)⟩
  · have e : Op.bytesLess (nt (rG f)) (nt (rG g)) = false := by
      rw [← Bool.not_eq_true]
      intro a
      have := rq _ _ _ h a
      rw [oz] at this; cases this
    have d : dA (pB (rG f)) (pB (rG g)) = false := by
      rw [← Bool.not_eq_true, eB]
      intro a
      have b := congrArg (fun s : ByteArray => s.data.toList) a
      simp only [nQ] at b
      rw [b, oz] at h; cases h
    rw [e, d]
    exact ⟨1, rfl, iff_of_true (by omega) h⟩
theorem Mp : ∀ (n : Nat) (f : Formula), gm f ≤ n → ∀ g, ∃ b, kw n f g = some b ∧ (b = true ↔ f = g) := by
  intro n
  induction n with
  | zero => intro f h; rw [eZ] at h; omega
  | succ n ih =>
    intro f h g
    rw [eZ] at h
    have key : ∀ (l m A : List Formula), (∀ x ∈ l, x ∈ f.Kids) → g.Kids = A ++ m → l.length = m.length → ∃ b, lY g (kw n) l A.length = some b ∧ (b = true ↔ l = m) := by
      intro l
      induction l with
      | nil =>
        intro m A _ _ d
        obtain rfl := List.eq_nil_of_length_eq_zero d.symm
        exact ⟨true, by rw [lY], by simp⟩
      | cons x l t =>
        intro m A s v d
        match m, d with
        | y :: m, d =>
          obtain ⟨b, e, r⟩ := ih x (by have := kz (s x (by simp)); omega) y
          rw [lY, v, fj A y m _ rfl, Option.bind_some, e, Option.bind_some]
          cases b with
          | false =>
            refine ⟨false, rfl, ?_⟩
            have : x ≠ y := fun k => by have := r.2 k; simp at this
            simp [this]
          | true =>
            have k := r.1 rfl
            obtain ⟨b, u, i⟩ := t m (A ++ [y]) (fun z w => s z (by simp [w])) (by rw [v]; simp) (by simpa using d)
            rw [List.length_append, List.length_singleton] at u
            simp only [Bool.not_true, Bool.false_eq_true, if_false]
            rw [u]
            exact ⟨b, rfl, by rw [i]; simp [k]⟩
    rw [kw]
    unfold qH
    by_cases j : f.Op = g.Op
    · by_cases i : f.K = g.K
      · by_cases p : f.aA = g.aA
        · have q : bB f.aA g.aA = true := bD.2 p
          by_cases d : f.Kids.length = g.Kids.length
          · obtain ⟨b, e, r⟩ := key f.Kids g.Kids [] (fun x s => s) rfl d
            rw [List.length_nil] at e
            refine ⟨b, ?_, r.trans ⟨fun a => Formula.ext' j i p a, fun a => by rw [a]⟩⟩
            simp [j, i, q, d, e]
          · refine ⟨false, ?_, by simp; intro a; rw [a] at d; exact d rfl⟩
            have : ((f.Kids.length : Int) != (g.Kids.length : Int)) = true := by simp; omega
            simp [j, i, q, this]
        · have q : bB f.aA g.aA = false := by rw [← Bool.not_eq_true, bD]; exact p
          exact ⟨false, by simp [j, i, q], by simp; intro a; rw [a] at p; exact p rfl⟩
      · exact ⟨false, by simp [j, i], by simp; intro a; rw [a] at i; exact i rfl⟩
    · exact ⟨false, by simp [j], by simp; intro a; rw [a] at j; exact j rfl⟩
theorem Ik (a b : Formula) (h : Gd a) : kw bL a b = some (jE a b) := by
  have := qx a
  unfold Gd at h
  obtain ⟨x, e, d⟩ := Mp bL a (by rw [eE]; omega) b
  rw [e]; congr 1
  rw [Bool.eq_iff_iff, d, uF]
end Go.Proofs.YtmlncblocfcmiaaGreat
namespace Go.Proofs.YtmlncblocfcmiaaGreat
open Go.RowKit
section
variable {α : Type} {lt : α → α → Bool}
def FX (lt : α → α → Bool) (l : List α) : Prop := l.Pairwise fun x y => lt y x = false
theorem yF (h : SWO lt) (k : α) : ∀ {l : List α}, FX lt l → ∃ A B, l = A ++ B ∧ (∀ x ∈ A, lt k x = false) ∧ (∀ x ∈ B, lt k x = true)
  | [], _ => ⟨[], [], rfl, by simp, by simp⟩
  | x :: l, j => by
    obtain ⟨b, d⟩ := List.pairwise_cons.1 j
    cases e : lt k x with
    | true =>
      refine ⟨[], x :: l, rfl, by simp, fun y a => ?_⟩
      rcases List.mem_cons.1 a with rfl | a
      · exact e
      · rcases h.Hl _ y _ e with q | q
        · exact q
        · rw [b y a] at q; cases q
    | false =>
      obtain ⟨A, B, rfl, g, i⟩ := yF h k d
      exact ⟨x :: A, B, rfl, fun y a => by
        rcases List.mem_cons.1 a with rfl | a
        · exact e
        · exact g y a, i⟩
theorem BK {k : α} {A B : List α} (b : ∀ x ∈ A, lt k x = false) (d : ∀ x ∈ B, lt k x = true) : vg lt (A ++ B) k = A ++ k :: B := by
  unfold vg
  rw [List.filter_append, List.filter_append]
  rw [List.filter_eq_self.2 (fun x a => by rw [b x a]; rfl), List.filter_eq_nil_iff.2 (fun x a => by rw [d x a]; simp), List.filter_eq_nil_iff.2 (fun x a => by rw [b x a]; simp), List.filter_eq_self.2 (fun x a => d x a)]
  simp
theorem FM (h : SWO lt) {k : α} {A B : List α} (g : FX lt (A ++ B)) (i : ∀ x ∈ A, lt k x = false) (j : ∀ x ∈ B, lt k x = true) : FX lt (A ++ k :: B) := by
  unfold FX at *
  rw [List.pairwise_append] at *
  refine ⟨g.1, List.pairwise_cons.2 ⟨fun x l => h.MN (j x l), g.2.1⟩, fun a ha b d => ?_⟩
  rcases List.mem_cons.1 d with rfl | d
  · exact i a ha
  · exact g.2.2 a ha b d
variable {eq : α → α → Bool}
theorem CG (he : ∀ x y, eq x y = true ↔ x = y) (k : α) : ∀ (l : List α) (p : α), fu eq p (l ++ [k]) = if eq k ((l.getLast?).getD p) then fu eq p l else fu eq p l ++ [k]
  | [], p => by
    rw [List.nil_append, fu, fu]
    rfl
  | y :: l, p => by
    have e : ((y :: l).getLast?).getD p = (l.getLast?).getD y := by cases l <;> rfl
    rw [List.cons_append, fu, fu, CG he k l y, e]
    by_cases a : eq y p = true
    · rw [if_pos a, if_pos a]
    · rw [if_neg a, if_neg a]
      split <;> rfl
def tH (eq : α → α → Bool) (l : List α) (k : α) : Bool := match l.getLast? with | some y => eq y k | none => false
theorem H2 (x : α) (l : List α) : (x :: l).getLast? = some ((l.getLast?).getD x) := by cases l <;> rfl
theorem Kf (he : ∀ x y, eq x y = true ↔ x = y) (k : α) (l : List α) : dd eq (l ++ [k]) = if tH eq l k then dd eq l else dd eq l ++ [k] := by
  cases l with
  | nil => rfl
  | cons x l =>
    have a : dd eq ((x :: l) ++ [k]) = x :: fu eq x (l ++ [k]) := rfl
    have b : dd eq (x :: l) = x :: fu eq x l := rfl
    unfold tH
    rw [a, b, CG he, H2]
    simp only
    by_cases h : (l.getLast?).getD x = k
    · rw [h, if_pos ((he k k).2 rfl), if_pos ((he k k).2 rfl)]
    · rw [if_neg (fun q => h ((he _ _).1 q).symm), if_neg (fun q => h ((he _ _).1 q))]; rfl
theorem D2 (he : ∀ x y, eq x y = true ↔ x = y) (y : α) (B : List α) : ∀ (l : List α) (p : α), y ≠ (l.getLast?).getD p → fu eq p (l ++ y :: B) = fu eq p l ++ y :: fu eq y B
  | [], p, h => by
    have h : y ≠ p := h
    rw [List.nil_append]
    have e : fu eq p (y :: B) = if eq y p then fu eq y B else y :: fu eq y B := rfl
    rw [e, if_neg (fun q => h ((he _ _).1 q))]; rfl
  | z :: l, p, h => by
    have e : ((z :: l).getLast?).getD p = (l.getLast?).getD z := by cases l <;> rfl
    rw [e] at h
    rw [List.cons_append, fu, fu, D2 he y B l z h]
    split <;> rfl
theorem HS (he : ∀ x y, eq x y = true ↔ x = y) (A : List α) : ∀ B : List α, (∀ y, B.head? = some y → A.getLast? ≠ some y) → dd eq (A ++ B) = dd eq A ++ dd eq B
  | [], _ => by rw [List.append_nil]; show _ = dd eq A ++ []; rw [List.append_nil]
  | y :: B, h => by
    have h := h y rfl
    cases A with
    | nil => rfl
    | cons x A =>
      have e : (x :: A).getLast? = some ((A.getLast?).getD x) := by cases A <;> rfl
      rw [e] at h
      rw [List.cons_append, dd, dd, dd, D2 he y B A x (fun q => h (by rw [q]))]; rfl
theorem CF (he : ∀ x y, eq x y = true ↔ x = y) : ∀ (l : List α) (p : α), ((fu eq p l).getLast?).getD p = (l.getLast?).getD p
  | [], p => by rw [fu]
  | y :: l, p => by
    have e : ((y :: l).getLast?).getD p = (l.getLast?).getD y := by cases l <;> rfl
    rw [fu, e, ← CF he l y]
    by_cases h : eq y p = true
    · rw [if_pos h, (he _ _).1 h]
    · rw [if_neg h]
      cases fu eq y l <;> rfl
theorem JU (he : ∀ x y, eq x y = true ↔ x = y) (l : List α) : (dd eq l).getLast? = l.getLast? := by
  cases l with
  | nil => rfl
  | cons x l =>
    have e : ∀ m : List α, (x :: m).getLast? = some ((m.getLast?).getD x) := by intro m; cases m <;> rfl
    rw [dd, e, e, CF he]
theorem Lv (h : SWO lt) (he : ∀ x y, eq x y = true ↔ x = y) {k : α} {A B : List α} (l : ∀ x ∈ A, lt k x = false) (i : ∀ x ∈ B, lt k x = true) :
    dd eq (A ++ B) = dd eq A ++ dd eq B ∧ dd eq (A ++ k :: B) = (if tH eq A k then dd eq A else dd eq A ++ [k]) ++ dd eq B := by
  have j : ∀ y, B.head? = some y → A.getLast? ≠ some y := fun y g d => by
    have := i y (List.mem_of_mem_head? g)
    rw [l y (List.mem_of_getLast? d)] at this; cases this
  refine ⟨HS he A B j, ?_⟩
  have e : A ++ k :: B = (A ++ [k]) ++ B := by simp
  rw [e, HS he (A ++ [k]) B, Kf he]
  intro y g d
  rw [List.getLast?b] at d
  simp only [List.getLast?a, Option.some_or, Option.some.injEq] at d
  have := i y (List.mem_of_mem_head? g)
  rw [d, h.Ji] at this; cases this
end
end Go.Proofs.YtmlncblocfcmiaaGreat
namespace Go.Proofs.YtmlncblocfcmiaaGreat
open Go.RowKit
theorem BF (l : List Formula) (k : Formula) (g : ∀ x ∈ l, Gd x) (i : Gd k) (A : List Formula) (p : ∀ x ∈ A, fT vk k x = false) : ∀ (m : Nat) (B C : List Formula), B.length = m → l = A ++ B ++ C → (∀ x ∈ B, fT vk k x = true) → l.length ≤ 1000000 → ∀ n, m < n →
    ja l k n (((A.length + B.length : Nat)) : Int) = some (A.length : Int)
  | 0, B, C, hm, a, d, hlen, n + 1, s => by
    obtain rfl := List.eq_nil_of_length_eq_zero hm
    rw [ja]
    simp only [List.length_nil, Nat.add_zero]
    rcases List.eq_nil_or_concat A with rfl | ⟨A', y, rfl⟩
    · rfl
    · rw [List.concat_eq_append] at *
      have hp : (((A' ++ [y]).length : Int)) > 0 := by simp
      simp only [hp, decide_true, if_true]
      have hw : IntKind.i64.wrap ((((A' ++ [y]).length : Int)) - 1) = (A'.length : Int) := by
        simp at hlen a ⊢
        rw [a] at hlen
        simp at hlen
        rw [cP (by omega) (by omega)]
      rw [hw, show dU l (A'.length : Int) = some y from by rw [a]; simp only [List.append_nil, List.append_assoc]; exact fj A' y C _ rfl, Option.bind_some]
      have j : y ∈ l := by rw [a]; simp
      obtain ⟨c, e, h⟩ := EI y k (g y j) i
      have b : ¬ c > 0 := fun q => by have := h.1 q; rw [p y (by simp)] at this; cases this
      rw [e, Option.bind_some]
      simp [b]
  | m + 1, B, C, hm, a, d, hlen, n + 1, s => by
    rcases List.eq_nil_or_concat B with rfl | ⟨B', y, rfl⟩
    · simp at hm
    · rw [List.concat_eq_append] at *
      rw [ja]
      have hp : (((A.length + (B' ++ [y]).length : Nat)) : Int) > 0 := by simp; omega
      simp only [hp, decide_true, if_true]
      have hw : IntKind.i64.wrap ((((A.length + (B' ++ [y]).length : Nat)) : Int) - 1) = ((A.length + B'.length : Nat) : Int) := by
        rw [a] at hlen
        simp at hlen
        rw [cP (by simp; omega) (by simp; omega)]; simp; omega
      have r : dU l ((A.length + B'.length : Nat) : Int) = some y := by
        rw [a]
        have e : A ++ (B' ++ [y]) ++ C = (A ++ B') ++ y :: C := by simp
        rw [e]
        exact fj (A ++ B') y C _ (by simp)
      rw [hw, r, Option.bind_some]
      have j : y ∈ l := by rw [a]; simp
      obtain ⟨c, e, h⟩ := EI y k (g y j) i
      have b : c > 0 := h.2 (d y (by simp))
      rw [e, Option.bind_some]
      simp only [b, decide_true, Option.bind_some, if_true]
      exact BF l k g i A p m B' (y :: C) (by simp at hm; omega) (by rw [a]; simp) (fun x t => d x (by simp [t])) hlen n (by omega)
theorem MU {b : Bool} (h : b = true) : lR b = some () := by rw [h]; rfl
theorem zM (a : Bool) (k : Formula) (ks A B : List Formula) (l : ∀ x ∈ A ++ B, Gd x) (r : Gd k) (m : ∀ x ∈ A, fT vk k x = false) (n : ∀ x ∈ B, fT vk k x = true) (hlen : (A ++ B).length ≤ 1000000) :
    eT a (k :: ks) (A ++ B) = if a && tH jE A k then eT a ks (A ++ B) else eT a ks (A ++ k :: B) := by
  have j := BF (A ++ B) k l r A m B.length B [] rfl (by simp) n hlen bL (by rw [eE]; simp at hlen; omega)
  have b : A.length + B.length ≤ 1000000 := by simpa using hlen
  rw [eT, List.length_append, j, Option.bind_some]
  have rest : ((lR (decide ((0 : Int) ≤ (A.length : Int)) && decide ((A.length : Int) ≤ ((A ++ B).length : Int)))).bind fun _ => (eS 72 ([]) ((A ++ B).take (Int.toNat (A.length : Int)))).bind fun d => (eS 72 d ([k])).bind fun g => (lR (decide ((0 : Int) ≤ (A.length : Int)) && decide ((A.length : Int) ≤ ((A ++ B).length : Int)))).bind fun _ => (eS 72 g ((A ++ B).drop (Int.toNat (A.length : Int)))).bind fun h => eT a ks h) = eT a ks (A ++ k :: B) := by
    rw [MU (by simp; omega), Option.bind_some, Int.toNat_natCast, List.take_left, List.drop_left, eW (by simp; omega) (by simp; omega), Option.bind_some, eW (by simp; omega) (by simp; omega), Option.bind_some, Option.bind_some, eW (by simp; omega) (by simp; omega), Option.bind_some]
    simp
  rw [List.length_append] at rest
  cases a with
  | false => exact rest
  | true =>
    simp only [if_true, Option.bind_some, Bool.true_and]
    rcases List.eq_nil_or_concat A with rfl | ⟨A', y, rfl⟩
    · exact rest
    · rw [List.concat_eq_append] at *
      have hp : (((A' ++ [y]).length : Int)) > 0 := by simp
      simp only [hp, decide_true, if_true]
      have hw : IntKind.i64.wrap ((((A' ++ [y]).length : Int)) - 1) = (A'.length : Int) := by
        simp at b ⊢
        rw [cP (by omega) (by omega)]
      have q : dU ((A' ++ [y]) ++ B) (A'.length : Int) = some y := by
        simp only [List.append_assoc, List.cons_append, List.nil_append]
        exact fj A' y B _ rfl
      rw [hw, q, Option.bind_some, Ik y k (l y (by simp)), Option.bind_some, Option.bind_some]
      have p : tH jE (A' ++ [y]) k = jE y k := by unfold tH; rw [List.getLast?i]; rfl
      rw [p]
      cases jE y k
      · simp only [Bool.false_eq_true, if_false]; exact rest
      · rfl
theorem Bp {x : Formula} {l : List Formula} (h : x ∈ dd jE l) : x ∈ l := (DT (fun _ _ => uF) l x).1 h
theorem zQ : ∀ (ks S : List Formula), FX (fT vk) S → (∀ x ∈ S, Gd x) → (∀ x ∈ ks, Gd x) → S.length + ks.length ≤ 1000000 → eT true ks (dd jE S) = some (dd jE (ks.foldl (vg (fT vk)) S))
  | [], S, _, _, _, _ => by rw [eT]; rfl
  | k :: ks, S, l, g, j, n => by
    rw [List.length_cons] at n
    obtain ⟨A, B, rfl, b, d⟩ := yF Cl k l
    obtain ⟨p, q⟩ := Lv (eq := jE) Cl (fun _ _ => uF) b d
    have i := Es jE (A ++ B)
    rw [p] at i ⊢
    rw [zM true k ks (dd jE A) (dd jE B) (fun x a => by
      rcases List.mem_append.1 a with h | h
      · exact g x (by simp [Bp h])
      · exact g x (by simp [Bp h])) (j k (by simp)) (fun x a => b x (Bp a)) (fun x a => d x (Bp a)) (by omega), List.foldl_cons, BK b d]
    have r : tH jE (dd jE A) k = tH jE A k := by unfold tH; rw [JU (eq := jE) (fun _ _ => uF)]
    rw [r, Bool.true_and]
    have ih := zQ ks (A ++ k :: B) (FM Cl l b d) (fun x a => by
      rcases List.mem_append.1 a with h | h
      · exact g x (by simp [h])
      · rcases List.mem_cons.1 h with rfl | h
        · exact j _ (by simp)
        · exact g x (by simp [h])) (fun x a => j x (by simp [a])) (by simp at n ⊢; omega)
    rw [q] at ih
    cases m : tH jE A k
    · rw [m] at ih
      simp only [Bool.false_eq_true, if_false] at ih ⊢
      rw [← ih]; simp
    · rw [m] at ih
      simp only [if_true] at ih ⊢
      exact ih
theorem BQ : ∀ (ks S : List Formula), FX (fT vk) S → (∀ x ∈ S, Gd x) → (∀ x ∈ ks, Gd x) → S.length + ks.length ≤ 1000000 → eT false ks S = some (ks.foldl (vg (fT vk)) S)
  | [], S, _, _, _, _ => by rw [eT]; rfl
  | k :: ks, S, j, d, g, l => by
    rw [List.length_cons] at l
    obtain ⟨A, B, rfl, a, b⟩ := yF Cl k j
    rw [zM false k ks A B d (g k (by simp)) a b (by omega), List.foldl_cons, BK a b, Bool.false_and]
    simp only [Bool.false_eq_true, if_false]
    exact BQ ks (A ++ k :: B) (FM Cl j a b) (fun x i => by
      rcases List.mem_append.1 i with h | h
      · exact d x (by simp [h])
      · rcases List.mem_cons.1 h with rfl | h
        · exact g _ (by simp)
        · exact d x (by simp [h])) (fun x i => g x (by simp [i])) (by simp at l ⊢; omega)
theorem LI (l : List Formula) (h : ∀ x ∈ l, Gd x) (a : l.length ≤ 1000000) : ow l true = some (dd jE (ou l)) := zQ l [] List.Pairwise.nil (by simp) h (by simpa using a)
theorem MO (l : List Formula) (h : ∀ x ∈ l, Gd x) (a : l.length ≤ 1000000) : ow l false = some (ou l) := BQ l [] List.Pairwise.nil (by simp) h (by simpa using a)
end Go.Proofs.YtmlncblocfcmiaaGreat
namespace Go.Proofs.YtmlncblocfcmiaaGreat
open Go.RowKit
theorem zo (f : Formula) (op : Int) : oa f op = some (dL op f) := xf f op
theorem DN (op : Int) (a : op = 2 ∨ op = 3) (s : cY) : ∀ l : List Formula, iJ op s l = some (if l.any (dL (5 - op)) then .inl (⟨5 - op, 0, jf, []⟩, s) else .inr ())
  | [] => rfl
  | x :: l => by
    have hw : IntKind.i64.wrap (5 - op) = 5 - op := cP (by omega) (by omega)
    rw [iJ, hw, zo, Option.bind_some, List.any_cons, DN op a s l]
    cases dL (5 - op) x <;> rfl
theorem Hk (op : Int) (a : op = 2 ∨ op = 3) (l : List Formula) (j : nodesL l ≤ 64) : fG op ⟨false⟩ [] l = some (if l.any (dL (5 - op)) then ⟨5 - op, 0, jf, []⟩ else match dd jE (ou l) with | [x] => x | r => ⟨op, 0, jf, r⟩, ⟨false⟩) := by
  have g := je l
  rw [fG, DN op a, Option.bind_some]
  cases h : l.any (dL (5 - op))
  · simp only [Bool.false_eq_true, if_false]
    rw [LI l (fun x d => by have := mN d; unfold Gd; omega) (by omega), Option.bind_some]
    have i := Es jE (ou l)
    have hp := (rJ l).length_eq
    have b : ¬ (((dd jE (ou l)).length : Int) > 64) := by omega
    simp only [b, decide_false, Bool.false_eq_true, if_false, Option.bind_some]
    generalize dd jE (ou l) = r
    match r with
    | [] => rfl
    | [x] => rfl
    | x :: y :: r =>
      have : (((x :: y :: r).length : Int) == 1) = false := by simp; omega
      simp only [this, Bool.false_eq_true, if_false]
      rfl
  · rfl
theorem Al (op : Int) (d : op = 2 ∨ op = 3) : ∀ (ks acc : List Formula), nodesL acc + nodesL ks ≤ 64 →
    fG op ⟨false⟩ ks acc = some (if (acc ++ gv op ks).any (dL (5 - op)) then ⟨5 - op, 0, jf, []⟩ else match dd jE (ou (acc ++ gv op ks)) with | [x] => x | r => ⟨op, 0, jf, r⟩, ⟨false⟩)
  | [], acc, h => by
    rw [nodesL] at h
    rw [gv, List.append_nil]
    exact Hk op d acc (by omega)
  | k :: ks, acc, h => by
    rw [nodesL] at h
    have l := gA k
    have m := je k.Kids
    have n := je acc
    have e : ∀ a b : List Formula, nodesL (a ++ b) = nodesL a + nodesL b := by
      intro a b
      induction a with
      | nil => rw [List.nil_append, nodesL]; omega
      | cons x a g => rw [List.cons_append, nodesL, nodesL, g]; omega
    have hw : IntKind.i64.wrap (5 - op) = 5 - op := cP (by omega) (by omega)
    rw [fG, gv]
    by_cases c : k.Op = op
    · simp only [c, beq_self_eq_true, if_true]
      rw [eW (by omega) (by omega), Option.bind_some, Al op d ks _ (by rw [e]; omega), List.append_assoc]
    · have i : (k.Op == op) = false := by simpa using c
      simp only [i, Bool.false_eq_true, if_false, c]
      rw [zo, hw, Option.bind_some]
      cases j : dL (5 - op) k
      · simp only [Bool.false_eq_true, if_false]
        rw [eW (by simp; omega) (by simp; omega), Option.bind_some, Al op d ks _ (by rw [e, nodesL, nodesL]; omega), List.append_assoc]
      · simp only [if_true]
        have : (acc ++ ([k] ++ gv op ks)).any (dL (5 - op)) = true := by simp [j]
        rw [this]; rfl
theorem Gj (op : Int) (a : op = 2 ∨ op = 3) (ks : List Formula) (h : nodesL ks ≤ 64) : iE ⟨false⟩ op ks = some (iF op ks, ⟨false⟩) := by
  unfold iE iF
  rw [Al op a ks [] (by rw [nodesL]; omega), List.nil_append]
  rfl
theorem vz : ∀ (ks acc : List Formula) (k : Int), -1000 ≤ k - (ks.length : Int) → k ≤ 1000 → acc.length + ks.length ≤ 1000 →
    fw ks k acc = some (k - ((ks.filter (dL 2)).length : Int), acc ++ ks.filter fun x => !dL 2 x && !dL 3 x)
  | [], acc, k, b, a, d => by rw [fw]; simp
  | x :: ks, acc, k, b, a, d => by
    simp only [List.length_cons] at b d
    rw [fw, zo, Option.bind_some, zo, Option.bind_some]
    rw [List.filter_cons, List.filter_cons]
    cases g : dL 2 x
    · cases h : dL 3 x
      · simp only [Bool.not_false, Bool.and_self, Bool.false_eq_true, if_false, if_true]
        rw [eW (by simp; omega) (by simp; omega), Option.bind_some, vz ks _ k (by omega) a (by simp; omega)]
        simp only [List.append_assoc, List.cons_append, List.nil_append]
      · simp only [Bool.not_false, Bool.not_true, Bool.and_false, Bool.false_eq_true, if_false]
        rw [vz ks _ k (by omega) a (by omega)]
    · simp only [Bool.not_true, Bool.false_and, Bool.false_eq_true, if_false, if_true]
      rw [cP (by omega) (by omega), vz ks _ (k - 1) (by omega) (by omega) (by omega)]
      simp only [List.length_cons]
      have e : k - 1 - ((ks.filter (dL 2)).length : Int) = k - (((ks.filter (dL 2)).length + 1 : Nat) : Int) := by omega
      rw [e]
theorem KG : ∀ (n : Nat) (f : Formula), gm f ≤ n → cE f ≤ 64 → mH f = true → fE n ⟨false⟩ f = some (iK f, ⟨false⟩) := by
  intro n
  induction n with
  | zero => intro f h; rw [eZ] at h; omega
  | succ n ih =>
    intro f F O hw
    rw [eZ] at F
    have G := gA f
    obtain ⟨L, E, w⟩ := qQ hw
    rw [fE]
    unfold lP
    rw [rA]
    by_cases m : f.Op = 1
    · simp only [m, beq_self_eq_true, if_true]
    · have y : (f.Op == 1) = false := by simpa using m
      simp only [y, Bool.false_eq_true, if_false, m]
      have last : ∀ acc : List Formula, nodesL acc ≤ 64 → fP (fE n) f [] acc ⟨false⟩ = some (if f.Op = 4 then me f.K acc else iF f.Op acc, ⟨false⟩) := by
        intro acc b
        have hlen := je acc
        have M := rN (fun x => !dL 2 x && !dL 3 x) acc
        rw [fP]
        by_cases t : f.Op = 4
        · have g : 0 ≤ f.K ∧ f.K ≤ (f.Kids.length : Int) := by rcases w with h | h | h <;> omega
          have j : ¬ f.Op < 4 := by omega
          simp only [j, t, decide_false, Bool.false_eq_true, if_false, if_true]
          rw [vz acc [] f.K (by omega) (by omega) (by simp; omega), Option.bind_some, List.nil_append]
          unfold me
          simp only
          have i := je (acc.filter fun x => !dL 2 x && !dL 3 x)
          have hm : ∀ x ∈ (acc.filter fun x => !dL 2 x && !dL 3 x), Gd x := fun x I => by have := mN I; unfold Gd; omega
          generalize (acc.filter fun x => !dL 2 x && !dL 3 x) = l at *
          generalize f.K - ((acc.filter (dL 2)).length : Int) = k
          by_cases u : k ≤ 0
          · simp only [u, decide_true, if_true]; rfl
          · simp only [u, decide_false, Bool.false_eq_true, if_false]
            by_cases v : k > (l.length : Int)
            · simp only [v, decide_true, if_true]; rfl
            · simp only [v, decide_false, Bool.false_eq_true, if_false]
              by_cases p : k = (l.length : Int)
              · simp only [← p, beq_self_eq_true, if_true]
                rw [Gj 2 (.inl rfl) l (by omega), Option.bind_some]
                rfl
              · have A : (k == (l.length : Int)) = false := by simpa using p
                simp only [A, Bool.false_eq_true, if_false, p]
                by_cases q : k = 1
                · simp only [q, beq_self_eq_true, if_true]
                  rw [Gj 3 (.inr rfl) l (by omega), Option.bind_some]
                  rfl
                · have D : (k == 1) = false := by simpa using q
                  simp only [D, Bool.false_eq_true, if_false, q]
                  rw [MO l hm (by omega)]
                  rfl
        · have r : f.Op = 2 ∨ f.Op = 3 := by rcases w with h | h | h <;> omega
          have j : f.Op < 4 := by omega
          simp only [j, t, decide_true, if_true, if_false]
          rw [Gj f.Op r acc b, Option.bind_some]
      have key : ∀ (ks acc : List Formula), (∀ k ∈ ks, k ∈ f.Kids) → wellL ks = true → nodesL (acc ++ shapeL ks) ≤ 64 → nodesL ks ≤ 64 → fP (fE n) f ks acc ⟨false⟩ = some (if f.Op = 4 then me f.K (acc ++ shapeL ks) else iF f.Op (acc ++ shapeL ks), ⟨false⟩) := by
        intro ks
        induction ks with
        | nil =>
          intro acc _ _ b _
          rw [shapeL, List.append_nil] at *
          exact last acc b
        | cons k ks s =>
          intro acc g a b i
          rw [wellL, Bool.and_eq_true] at a
          rw [nodesL] at i
          rw [shapeL] at b
          have d := je (acc ++ iK k :: shapeL ks)
          simp only [List.length_append, List.length_cons] at d
          rw [fP, ih k (by have := kz (g k (by simp)); omega) (by omega) a.1, Option.bind_some, eW (by simp; omega) (by simp; omega), Option.bind_some,
            s (acc ++ [iK k]) (fun z J => g z (by simp [J])) a.2 (by rw [List.append_assoc]; exact b) (by omega), shapeL]
          simp only [List.append_assoc, List.cons_append, List.nil_append]
      have := xU f.Kids
      have := key f.Kids [] (fun k g => g) E (by simpa using by omega) (by omega)
      simpa using this
theorem Ja (f : Formula) (h : Gd f) : sD f = some (pE f) := by
  unfold sD pE
  rw [EQ f h, Option.bind_some]
  cases d : fS f
  · rfl
  · obtain ⟨a, g, b⟩ := th d
    have i := tz f
    simp only [Bool.not_true, Bool.false_eq_true, if_false, if_true]
    rw [KG bL f (by rw [eE]; omega) a b, Option.bind_some, EQ (iK f) (by unfold Gd; omega)]
    simp only [Bool.false_eq_true, if_false, Option.bind_some]
    cases fS (iK f) <;> rfl
theorem AU (c : aB) : ∀ (l : List gM) (e o k : Int) (r : aA) (ks : List Formula), (∀ a ∈ l, cE a.aI ≤ 10000000) → cE ⟨o, k, r, ks⟩ ≤ 64 →
    mu c l e o k r ks = some (let t := iC (⟨o, k, r, ks⟩, e) ((l.filter fun a => eP bT a.eQ c).map (·.aI)); (t.2, t.1.Op, t.1.K, t.1.aA, t.1.Kids))
  | [], e, o, k, r, ks, _, _ => by rw [mu, List.filter_nil, List.map_nil, iC]
  | a :: l, e, o, k, r, ks, h, p => by
    have ha := h a (by simp)
    have j : ∀ x ∈ l, cE x.aI ≤ 10000000 := fun x v => h x (by simp [v])
    rw [mu, List.filter_cons, zr]
    by_cases d : e = 0
    · have i : (e == 0) = true := by simp [d]
      simp only [i, if_true, Option.bind_some]
      cases z : eP bT a.eQ c
      · simp only [Bool.false_eq_true, if_false]
        exact AU c l e o k r ks j p
      · simp only [if_true]
        rw [List.map_cons, iC]
        simp only [d, if_true]
        have s : Gd ⟨2, 0, jf, [⟨o, k, r, ks⟩, a.aI]⟩ := by show cE _ ≤ _; rw [cE, nodesL, nodesL, nodesL]; omega
        rw [show (⟨2, 0, (⟨zS, zS⟩ : aA), [(⟨o, k, r, ks⟩ : Formula), a.aI]⟩ : Formula) = ⟨2, 0, jf, [⟨o, k, r, ks⟩, a.aI]⟩ from rfl, Ja _ s, Option.bind_some]
        have u := rH (f := ⟨2, 0, jf, [⟨o, k, r, ks⟩, a.aI]⟩)
        generalize pE ⟨2, 0, jf, [⟨o, k, r, ks⟩, a.aI]⟩ = q at *
        obtain ⟨⟨w, k', y, n⟩, e'⟩ := q
        exact AU c l e' w k' y n j u
    · have i : (e == 0) = false := by simpa using d
      simp only [i, Bool.false_eq_true, if_false, Option.bind_some]
      rw [AU c l e o k r ks j p]
      have b : ∀ m : List Formula, iC (⟨o, k, r, ks⟩, e) m = (⟨o, k, r, ks⟩, e) := by
        intro m
        cases m with
        | nil => rw [iC]
        | cons g m => rw [iC]; simp only [d, if_false]
      rw [b, b]
theorem HB (c : aB) (p : cR) (hp : PB p) : ∀ l : List cI, (∀ x ∈ l, x ∈ p.aT) → oX c p l = some (match l.find? (fun x => bT x.Signed.aB c) with | none => (zT, 42) | some x => uf x.aI ((rO p c).map (·.aI)))
  | [], _ => rfl
  | x :: l, h => by
    rw [oX, List.find?b]
    cases n : bT x.Signed.aB c
    · simp only [Bool.not_false, if_true]
      exact HB c p hp l (fun z j => h z (by simp [j]))
    · simp only [Bool.not_true, Bool.false_eq_true, if_false]
      have s := hp.rel x (h x (by simp))
      have i := rH (f := x.aI)
      rw [Ja _ (by unfold Gd; omega), Option.bind_some]
      unfold uf rO
      generalize pE x.aI = q at *
      obtain ⟨⟨o, k, r, ks⟩, e⟩ := q
      rw [AU c p.bP e o k r ks hp.Gl i, Option.bind_some]
      simp only
      generalize iC (⟨o, k, r, ks⟩, e) ((p.bP.filter fun a => eP bT a.eQ c).map (·.aI)) = t
      obtain ⟨⟨u, k', v, m⟩, e'⟩ := t
      by_cases d : e' = 0
      · subst d; rfl
      · have g : (e' != 0) = true := by simp [d]
        simp only [g, if_true, d, if_false]; rfl
theorem LQ (p : cR) (hp : PB p) (c : aB) : uA p c = some (iI p c) := by
  unfold uA iI tI
  rw [HB c p hp _ (fun x a => a)]
  cases p.aT.find? (fun x => bT x.Signed.aB c) <;> rfl
end Go.Proofs.YtmlncblocfcmiaaGreat
namespace Go.Proofs.YtmlncblocfcmiaaGreat
open Go.RowKit
theorem MJ (l : List aA) (r : aA) : tq l r = some (eP bB l r) := by
  unfold tq
  induction l with
  | nil => rfl
  | cons x l ih =>
    rw [qy, ih]
    have e : eP bB (x :: l) r = (bB r x || eP bB l r) := rfl
    have a : bB x r = bB r x := by rw [Bool.eq_iff_iff, bD, bD]; exact eq_comm
    rw [e, a]
    cases bB r x <;> rfl
theorem Aj (l : List aA) (rec : Formula → List aA → Option Bool) (f : Formula) (v : aA → Bool) : ∀ (ks : List Formula) (x : Nat), (∀ k ∈ ks, rec k l = some (jg v k)) → x + ks.length ≤ 100000000 →
    kx rec l f ks (x : Int) = some (if f.Op = 2 then decide (x + evN v ks = f.Kids.length) else if f.Op = 3 then decide (0 < x + evN v ks) else decide (f.K ≤ ((x + evN v ks : Nat) : Int)))
  | [], x, _, _ => by
    rw [kx, evN, Nat.add_zero]
    by_cases a : f.Op = 2
    · simp only [a, beq_self_eq_true, if_true]
      congr 1
      rw [Bool.eq_iff_iff, beq_iff_eq, decide_eq_true_eq]; omega
    · have d : (f.Op == 2) = false := by simpa using a
      simp only [d, Bool.false_eq_true, if_false, a]
      by_cases b : f.Op = 3
      · simp only [b, beq_self_eq_true, if_true]
        congr 1
        rw [Bool.eq_iff_iff, decide_eq_true_eq, decide_eq_true_eq]; omega
      · have i : (f.Op == 3) = false := by simpa using b
        simp only [i, Bool.false_eq_true, if_false, b]
        first | done | rfl
  | k :: ks, x, h, j => by
    rw [List.length_cons] at j
    rw [kx, h k (by simp), Option.bind_some, evN]
    cases jg v k
    · simp only [Bool.false_eq_true, if_false]
      rw [Aj l rec f v ks x (fun z g => h z (by simp [g])) (by omega), Nat.zero_add]
    · simp only [if_true]
      have e : IntKind.i64.wrap ((x : Int) + 1) = ((x + 1 : Nat) : Int) := by rw [cP (by omega) (by omega)]; omega
      rw [e, Aj l rec f v ks (x + 1) (fun z g => h z (by simp [g])) (by omega)]
      have d : x + 1 + evN v ks = x + (1 + evN v ks) := by omega
      rw [d]
theorem LG (l : List aA) : ∀ (n : Nat) (f : Formula), gm f ≤ n → Gd f → lQ n f l = some (jg (eP bB l) f) := by
  intro n
  induction n with
  | zero => intro f h; rw [eZ] at h; omega
  | succ n ih =>
    intro f g i
    rw [eZ] at g
    have j := gA f
    have m := je f.Kids
    unfold Gd at i
    rw [lQ]
    unfold qF
    rw [pd, MJ]
    by_cases a : f.Op = 1
    · simp only [a, beq_self_eq_true, if_true, Option.bind_some]
    · have d : (f.Op == 1) = false := by simpa using a
      simp only [d, Bool.false_eq_true, if_false, a]
      have := Aj l (lQ n) f (eP bB l) f.Kids 0 (fun k b => ih k (by have := kz b; omega) (by have := mN b; unfold Gd; omega)) (by omega)
      simpa using this
theorem Hn (F : List aV) (w : ByteArray) : eP bB (DP F w) = vF F w := by
  funext r
  unfold vF DP
  rw [Bool.eq_iff_iff, mw bD, mw tu, List.mem_map]
  constructor
  · rintro ⟨f, d, rfl⟩
    obtain ⟨a, b⟩ := List.mem_filter.1 d
    have := eB.1 b
    rw [← this]; exact a
  · intro h
    exact ⟨⟨r, w⟩, List.mem_filter.2 ⟨h, eB.2 rfl⟩, rfl⟩
theorem wR (p : cR) (hp : PB p) (l : List aA) (v : aA → Bool) (a : eP bB l = v) : ∀ (xs : List cI) (acc : List aB), acc.length + xs.length ≤ 1000000000 → kp p l xs acc = nV (acc ++ (xs.filter (tw p v)).map (·.Signed.aB))
  | [], acc, _ => by rw [kp, List.filter_nil, List.map_nil, List.append_nil, gh]
  | x :: xs, acc, h => by
    rw [List.length_cons] at h
    have g := CU p x.Signed.aB
    have d := qx (iI p x.Signed.aB).1
    rw [kp, LQ p hp, Option.bind_some, LG l bL _ (by rw [eE]; omega) (by unfold Gd; omega), a, List.filter_cons]
    unfold tw
    by_cases c : (iI p x.Signed.aB).2 = 0
    · have b := (G4 c).1
      simp only [c, beq_self_eq_true, if_true, decide_true, Bool.true_and, Option.bind_some]
      unfold tJ
      rw [b, Bool.true_and]
      cases i : jg v (iI p x.Signed.aB).1
      · simp only [Bool.false_eq_true, if_false]
        exact wR p hp l v a xs acc (by omega)
      · simp only [if_true]
        rw [eW (by simp; omega) (by simp; omega), Option.bind_some, wR p hp l v a xs _ (by simp; omega)]
        simp only [List.map_cons, List.append_assoc, List.cons_append, List.nil_append]
        rfl
    · have e : ((iI p x.Signed.aB).2 == 0) = false := by simpa using c
      simp only [e, Bool.false_eq_true, if_false, c, decide_false, Bool.false_and, Option.bind_some]
      exact wR p hp l v a xs acc (by omega)
theorem DK (p : cR) (hp : PB p) (l : List aB) (d : l.length ≤ 30000) (peer : ByteArray) : mZ p l peer = jA p l peer := by
  obtain ⟨F, a⟩ := MK l d
  obtain ⟨s, e, g⟩ := JG p hp a peer
  have := hp.Bk
  have i : (p.aT.filter (tw p (vF F peer))).length ≤ p.aT.length := List.length_filter_le _ _
  have hlen := a.len
  unfold mZ
  rw [a.ref, Option.bind_some, show oS F peer = some (DP F peer) from KN F peer (by omega), Option.bind_some, e]
  rw [wR p hp _ (vF F peer) (Hn F peer) p.aT [] (by simp; omega), List.nil_append]
  obtain ⟨t, b, h⟩ := Cw ((p.aT.filter (tw p (vF F peer))).map (·.Signed.aB)) (by simp; omega)
  rw [b, oM.unique vv h g]
end Go.Proofs.YtmlncblocfcmiaaGreat
namespace Go.Proofs.YtmlncblocfcmiaaGreat
open Go.RowKit
theorem DZ : ∀ (l m A : List aB), l.length = m.length → ∃ b, jj (A ++ m) l A.length = some b ∧ (b = true ↔ l = m)
  | [], m, A, d => by
    obtain rfl := List.eq_nil_of_length_eq_zero d.symm
    exact ⟨true, by rw [jj], by simp⟩
  | x :: l, [], A, d => by simp at d
  | x :: l, y :: m, A, d => by
    have n : dU (A ++ y :: m) (A.length : Int) = some y := fj _ _ _ _ rfl
    rw [jj, n, Option.bind_some]
    cases g : bT x y with
    | false =>
      refine ⟨false, by simp [g], ?_⟩
      have : x ≠ y := fun a => by have := eU.2 a; rw [this] at g; cases g
      simp [this]
    | true =>
      have a := eU.1 g
      obtain ⟨b, h, k⟩ := DZ l m (A ++ [y]) (by simpa using d)
      have i : A ++ y :: m = (A ++ [y]) ++ m := by simp
      have j : A.length + 1 = (A ++ [y]).length := by simp
      simp only [Bool.not_true, Bool.false_eq_true, if_false]
      rw [i, j, h]
      exact ⟨b, rfl, by rw [k]; simp [a]⟩
theorem Jr (l m : List aB) : ∃ b, fW l m = some b ∧ (b = true ↔ l = m) := by
  unfold fW
  by_cases h : l.length = m.length
  · have : ((l.length : Int) != (m.length : Int)) = false := by simp [h]
    simp only [this, Bool.false_eq_true, if_false]
    exact DZ l m [] h
  · have : ((l.length : Int) != (m.length : Int)) = true := by simp; omega
    simp only [this, if_true]
    exact ⟨false, rfl, by simp; intro a; rw [a] at h; exact h rfl⟩
theorem E0 {x p : List aB} (sx : gr x) (sp : gr p) (h : ∀ c ∈ x, c ∈ p) : fW p x = some (decide (p.length = x.length)) := by
  obtain ⟨b, e, a⟩ := Jr p x
  rw [e]; congr 1
  rw [Bool.eq_iff_iff, a, decide_eq_true_eq]
  exact ⟨fun q => by rw [q], fun q => (sx.eq sp h (by omega)).symm⟩
theorem AY (a b : cR) (ha : PB a) (g : PB b) (la : a.aT.length ≤ 30000) (lb : b.aT.length ≤ 30000) : ∀ (n : Nat) (x y : List aB) (i : Int), gr x → gr y → (∀ c ∈ x, gx a y b.Name c) → (∀ c ∈ y, gx b x a.Name c) →
    mA a b n x y i = iU a b n x y i
  | 0, x, y, i, sx, sy, h, j => by rw [mA, iU]
  | n + 1, x, y, i, sx, sy, h, j => by
    have v := kR sx (fun c d => (h c d).1)
    have w := kR sy (fun c d => (j c d).1)
    obtain ⟨p, t, sp, mp, z⟩ := vq a ha y (by omega) b.Name
    obtain ⟨q, u, sq, k, A⟩ := vq b g x (by omega) a.Name
    have l : ∀ c ∈ x, c ∈ p := fun c d => (mp c).2 (h c d)
    have m : ∀ c ∈ y, c ∈ q := fun c d => (k c).2 (j c d)
    rw [mA, iU, DK a ha y (by omega), DK b g x (by omega), t, u]
    simp only [Option.bind_some]
    rw [E0 sx sp l, E0 sy sq m]
    simp only [Option.bind_some]
    have ih := AY a b ha g la lb n p q (IntKind.i64.wrap (i + 1)) sp sq (fun c d => mO m ((mp c).1 d)) (fun c d => mO l ((k c).1 d))
    rw [ih]
    have r : ((p.length : Int) == (x.length : Int)) = decide (p.length = x.length) := by
      rw [Bool.eq_iff_iff, beq_iff_eq, decide_eq_true_eq]; omega
    have s : ((q.length : Int) == (y.length : Int)) = decide (q.length = y.length) := by
      rw [Bool.eq_iff_iff, beq_iff_eq, decide_eq_true_eq]; omega
    rw [r, s]
theorem Ka (a b : cR) (ha : PB a) (d : PB b) (la : a.aT.length ≤ 30000) (lb : b.aT.length ≤ 30000) : xa a b = qS a b :=
  AY a b ha d la lb bL [] [] 0 gr.nil gr.nil (by simp) (by simp)
theorem AD (b : List aB) : ∀ (l acc : List aB), acc.length + l.length ≤ 1000000 → kh b l acc = some (acc ++ l.filter (eP bT b))
  | [], acc, _ => by rw [kh, List.filter_nil, List.append_nil]
  | x :: l, acc, h => by
    rw [List.length_cons] at h
    rw [kh, zr, Option.bind_some, List.filter_cons]
    cases eP bT b x
    · simp only [Bool.false_eq_true, if_false]
      exact AD b l acc (by omega)
    · simp only [if_true]
      rw [eW (by simp; omega) (by simp; omega), Option.bind_some, AD b l _ (by simp; omega)]
      simp
theorem I9 (a b : List aB) (h : a.length ≤ 1000000) : pM a b = some (a.filter (eP bT b)) := by
  unfold pM
  rw [AD b a [] (by simpa using h), List.nil_append]
theorem yw (b : List aB) : ∀ (l acc : List aB), acc.length + l.length ≤ 1000000 → jI b l acc = some (acc ++ l.filter fun c => !eP bT b c)
  | [], acc, _ => by rw [jI, List.filter_nil, List.append_nil]
  | x :: l, acc, h => by
    rw [List.length_cons] at h
    rw [jI, zr, Option.bind_some, List.filter_cons]
    cases eP bT b x
    · simp only [Bool.not_false, if_true]
      rw [eW (by simp; omega) (by simp; omega), Option.bind_some, yw b l _ (by simp; omega)]
      simp
    · simp only [Bool.not_true, Bool.false_eq_true, if_false]
      exact yw b l acc (by omega)
theorem HM (a b : List aB) (h : a.length ≤ 1000000) : oY a b = some (a.filter fun c => !eP bT b c) := by
  unfold oY
  rw [yw b a [] (by simpa using h), List.nil_append]
theorem H3 (p : cR) (hp : p.aT.length ≤ 600000) : qW p = nT p := by
  have g : ∀ (l : List cI) (acc : List aB), acc.length + l.length ≤ 1000000000 → mQ l acc = nV (acc ++ l.map (·.Signed.aB)) ∧ iY l acc = nP (acc ++ l.map (·.Signed.aB)) := by
    intro l
    induction l with
    | nil => intro acc _; rw [mQ, iY, List.map_nil, List.append_nil, gh, gh]; exact ⟨rfl, rfl⟩
    | cons x l ih =>
      intro acc h
      rw [List.length_cons] at h
      rw [mQ, iY, eW (by simp; omega) (by simp; omega), Option.bind_some, Option.bind_some]
      have := ih (acc ++ [x.Signed.aB]) (by simp; omega)
      simpa using this
  unfold qW nT
  obtain ⟨a, b⟩ := g p.aT [] (by simp; omega)
  rw [a, b, List.nil_append]
  obtain ⟨s, e, h⟩ := GH (p.aT.map (·.Signed.aB)) (by simp; omega)
  obtain ⟨t, d, i⟩ := Cw (p.aT.map (·.Signed.aB)) (by simp; omega)
  rw [e, d, oM.unique vv i h]
theorem CC (p : fK) (ha : PB p.aC) (a : PB p.Client) (la : p.aC.aT.length ≤ 30000) (lb : p.Client.aT.length ≤ 30000) : ∀ (n : Nat) (x y : List aB), gr x → gr y → x.length ≤ 30000 → y.length ≤ 30000 →
    jH p n x y = gQ p n x y
  | 0, x, y, sx, sy, lx, ly => by rw [jH, gQ]
  | n + 1, x, y, sx, sy, lx, ly => by
    obtain ⟨f, j, A, w, u⟩ := vq p.aC ha y (by omega) p.Client.Name
    obtain ⟨g, k, sg, z, v⟩ := vq p.Client a x (by omega) p.aC.Name
    have r := List.length_filter_le (eP bT f) x
    have t := List.length_filter_le (eP bT g) y
    rw [jH, gQ, DK p.aC ha y (by omega), DK p.Client a x (by omega), j, k]
    simp only [Option.bind_some]
    rw [I9 x f (by omega), I9 y g (by omega), xq x f (by omega), xq y g (by omega)]
    simp only [Option.bind_some]
    rw [CC p ha a la lb n _ _ (sx.filter _) (sy.filter _) (by omega) (by omega)]
    have key : ∀ (s : List aB) (q : aB → Bool), fW (s.filter q) s = some (((s.filter q).length : Int) == (s.length : Int)) := by
      intro s q
      obtain ⟨b, e, a⟩ := Jr (s.filter q) s
      rw [e]; congr 1
      rw [Bool.eq_iff_iff, a, beq_iff_eq]
      constructor
      · intro h; rw [h]
      · intro h; exact (List.filter_sublist).eq_of_length (by omega)
    rw [key, key]
    simp only [Option.bind_some]
    by_cases d : (x.filter (eP bT f)).length = x.length
    · have l : (x.filter (eP bT f)) = x := (List.filter_sublist).eq_of_length d
      by_cases i : (y.filter (eP bT g)).length = y.length
      · have m : (y.filter (eP bT g)) = y := (List.filter_sublist).eq_of_length i
        rw [l, m]
      · have : (((y.filter (eP bT g)).length : Int) == (y.length : Int)) = false := by rw [beq_eq_false_iff_ne]; omega
        rw [d, this]
        simp
    · have : (((x.filter (eP bT f)).length : Int) == (x.length : Int)) = false := by rw [beq_eq_false_iff_ne]; omega
      rw [this]
      simp
theorem H0 (p : fK) (ha : PB p.aC) (g : PB p.Client) (la : p.aC.aT.length ≤ 30000) (lb : p.Client.aT.length ≤ 30000) : pe p = iS p := by
  unfold pe iS
  rw [H3 p.aC (by omega), H3 p.Client (by omega)]
  obtain ⟨x, b, sx, h⟩ := zy p.aC (by omega)
  obtain ⟨y, d, sy, i⟩ := zy p.Client (by omega)
  have j := kR sx (fun c a => ((h c).1 a).1)
  have k := kR sy (fun c a => ((i c).1 a).1)
  rw [b, d, Option.bind_some, Option.bind_some, Option.bind_some, Option.bind_some]
  exact CC p ha g la lb bL x y sx sy (by omega) (by omega)
theorem Lq (p : fK) (ha : PB p.aC) (d : PB p.Client) (la : p.aC.aT.length ≤ 30000) (lb : p.Client.aT.length ≤ 30000) : rb p = kF p := by
  obtain ⟨a, b, x, y, j, h, g, i, l, k⟩ := xg p ha d (by omega) (by omega)
  have m := g.la
  have n := g.lb
  rw [k]
  unfold rb
  rw [H0 p ha d la lb, h, Option.bind_some, Ka _ _ ha d la lb, i, Option.bind_some]
  simp only
  rw [HM a x (by omega), Option.bind_some, HM b y (by omega), Option.bind_some]
end Go.Proofs.YtmlncblocfcmiaaGreat
namespace Go.Proofs.YtmlncblocfcmiaaGreat
open Go.RowKit
mutual
def sH : Formula → Nat
  | ⟨_, _, r, ks⟩ => 1 + r.aC.size + r.aJ.size + szFL ks
def szFL : List Formula → Nat
  | [] => 0
  | k :: ks => sH k + szFL ks
end
theorem Eo (f : Formula) : sH f = 1 + f.aA.aC.size + f.aA.aJ.size + szFL f.Kids := by cases f; rw [sH]
theorem vN : ∀ f : Formula, cE f ≤ sH f := by
  refine D6 fun f ih => ?_
  have : ∀ ks : List Formula, (∀ k ∈ ks, cE k ≤ sH k) → nodesL ks ≤ szFL ks := by
    intro ks
    induction ks with
    | nil => intro _; rw [nodesL]; omega
    | cons k ks a =>
      intro h
      have := a (fun x b => h x (by simp [b]))
      have := h k (by simp)
      rw [nodesL, szFL]; omega
  have := this f.Kids ih
  rw [gA, Eo]; omega
def rn : List aB → Nat
  | [] => 0
  | c :: l => 20 + rl c + rn l
theorem g5 : ∀ (l : List aB) (n : Int), 0 ≤ n → n + (rn l : Int) ≤ 4000000000000000000 → kT l n = some (n + (rn l : Int))
  | [], n, _, _ => by rw [kT, rn]; simp
  | c :: l, n, b, a => by
    have e : rl c = c.Head.aC.size + c.Head.aJ.size + c.cH.size + c.B.aC.size + c.B.aJ.size + c.C.aC.size + c.C.aJ.size + c.cO.size := rfl
    rw [rn] at a
    rw [kT]
    rw [cP (x := 20 + (c.Head.aC.size : Int)) (by omega) (by omega), cP (x := 20 + (c.Head.aC.size : Int) + (c.Head.aJ.size : Int)) (by omega) (by omega), cP (x := 20 + (c.Head.aC.size : Int) + (c.Head.aJ.size : Int) + (c.cH.size : Int)) (by omega) (by omega), cP (x := 20 + (c.Head.aC.size : Int) + (c.Head.aJ.size : Int) + (c.cH.size : Int) + (c.B.aC.size : Int)) (by omega) (by omega), cP (x := 20 + (c.Head.aC.size : Int) + (c.Head.aJ.size : Int) + (c.cH.size : Int) + (c.B.aC.size : Int) + (c.B.aJ.size : Int)) (by omega) (by omega), cP (x := 20 + (c.Head.aC.size : Int) + (c.Head.aJ.size : Int) + (c.cH.size : Int) + (c.B.aC.size : Int) + (c.B.aJ.size : Int) + (c.C.aC.size : Int)) (by omega) (by omega), cP (x := 20 + (c.Head.aC.size : Int) + (c.Head.aJ.size : Int) + (c.cH.size : Int) + (c.B.aC.size : Int) + (c.B.aJ.size : Int) + (c.C.aC.size : Int) + (c.C.aJ.size : Int)) (by omega) (by omega), cP (x := 20 + (c.Head.aC.size : Int) + (c.Head.aJ.size : Int) + (c.cH.size : Int) + (c.B.aC.size : Int) + (c.B.aJ.size : Int) + (c.C.aC.size : Int) + (c.C.aJ.size : Int) + (c.cO.size : Int)) (by omega) (by omega), cP (by omega) (by omega)]
    rw [g5 l _ (by omega) (by omega), rn]
    congr 1; omega
theorem M4 : ∀ (n : Nat) (l : List Formula), deepL l < n → szFL l ≤ 1000000000000 → ∃ r : Int, gW n l = some r ∧ 0 ≤ r ∧ r ≤ (szFL l : Int) := by
  intro n
  induction n with
  | zero => intro l h; omega
  | succ n ih =>
    intro l h i
    rw [gW]
    unfold pQ
    have key : ∀ (l : List Formula) (x : Int), deepL l < n + 1 → 0 ≤ x → x + (szFL l : Int) ≤ 1000000000000 → ∃ r : Int, lu (gW n) l x = some r ∧ 0 ≤ r ∧ r ≤ x + (szFL l : Int) := by
      intro l
      induction l with
      | nil => intro x _ j _; exact ⟨x, by rw [lu], j, by rw [szFL]; simp⟩
      | cons k l b =>
        intro x h j i
        rw [deepL] at h
        rw [szFL] at i
        have t := Eo k
        have := eZ k
        obtain ⟨r, e, g, m⟩ := ih k.Kids (by omega) (by omega)
        rw [lu, e, Option.bind_some]
        have s : 0 ≤ Int.tdiv ((k.aA.aC.size : Int) + (k.aA.aJ.size : Int)) 16 ∧ Int.tdiv ((k.aA.aC.size : Int) + (k.aA.aJ.size : Int)) 16 ≤ (k.aA.aC.size : Int) + (k.aA.aJ.size : Int) := by
          rw [Int.tdiv_eq_ediv_of_nonneg (by omega)]
          omega
        rw [cP (x := (k.aA.aC.size : Int) + (k.aA.aJ.size : Int)) (by omega) (by omega)]
        generalize Int.tdiv ((k.aA.aC.size : Int) + (k.aA.aJ.size : Int)) 16 = d at *
        rw [cP (x := d) (by omega) (by omega), cP (x := 1 + d) (by omega) (by omega), cP (x := 1 + d + r) (by omega) (by omega), cP (x := x + (1 + d + r)) (by omega) (by omega)]
        obtain ⟨q, e', a, p⟩ := b (x + (1 + d + r)) (by omega) (by omega) (by omega)
        exact ⟨q, e', a, by rw [szFL]; omega⟩
    obtain ⟨r, e, g, m⟩ := key l 0 h (by omega) (by omega)
    exact ⟨r, e, g, by omega⟩
theorem B3 (f : Formula) (h : sH f ≤ 50000000) : ∃ r : Int, gW bL [f] = some r ∧ 0 ≤ r ∧ r ≤ (sH f : Int) := by
  have d := vN f
  have g := qx f
  obtain ⟨r, e, a, b⟩ := M4 bL [f] (by rw [deepL, deepL, eE]; omega) (by rw [szFL, szFL]; omega)
  refine ⟨r, e, a, ?_⟩
  rw [szFL, szFL] at b; omega
theorem g6 (s : Signed) (h : rl s.aB + s.Tag.length ≤ 1000000000) : ny [] [s] = some (20 + (rl s.aB : Int) + (s.Tag.length : Int)) := by
  unfold ny
  rw [jL, kX]
  have := g5 [s.aB] 0 (by omega) (by rw [rn, rn]; omega)
  rw [show oR [s.aB] = _ from this, Option.bind_some, kX, rn, rn]
  rw [cP (x := 0 + ((20 + rl s.aB + 0 : Nat) : Int) + (s.Tag.length : Int)) (by omega) (by omega), cP (by omega) (by omega)]
  simp only [Option.bind_some]
  congr 1; omega
def vX : List cI → Nat
  | [] => 0
  | x :: l => 20 + rl x.Signed.aB + x.Signed.Tag.length + 20 * sH x.aI + vX l
def uM : List gM → Nat
  | [] => 0
  | a :: l => a.aA.aC.size + a.aA.aJ.size + 20 * sH a.aI + rn a.eQ + uM l
def CN (p : cR) : Nat := p.Name.size + vX p.aT + uM p.bP
theorem Hc : ∀ (l : List gM) (x : Int), 0 ≤ x → x + (uM l : Int) ≤ 1000000000 → ∃ r : Int, kV l x = some r ∧ x ≤ r ∧ r ≤ x + (uM l : Int)
  | [], x, _, _ => ⟨x, by rw [kV], by omega, by rw [uM]; omega⟩
  | a :: l, x, j, h => by
    rw [uM] at h
    obtain ⟨r, e, k, m⟩ := B3 a.aI (by omega)
    have b := g5 a.eQ 0 (by omega) (by omega)
    rw [kV, e, Option.bind_some, show oR a.eQ = _ from b, Option.bind_some]
    rw [cP (x := (a.aA.aC.size : Int) + (a.aA.aJ.size : Int)) (by omega) (by omega), cP (x := 20 * r) (by omega) (by omega), cP (x := (a.aA.aC.size : Int) + (a.aA.aJ.size : Int) + 20 * r) (by omega) (by omega), cP (x := (a.aA.aC.size : Int) + (a.aA.aJ.size : Int) + 20 * r + (0 + (rn a.eQ : Int))) (by omega) (by omega), cP (by omega) (by omega)]
    obtain ⟨d, e', g, i⟩ := Hc l (x + ((a.aA.aC.size : Int) + (a.aA.aJ.size : Int) + 20 * r + (0 + (rn a.eQ : Int)))) (by omega) (by omega)
    exact ⟨d, e', by omega, by rw [uM]; omega⟩
theorem MG (p : cR) (g : CN p ≤ 1000000000) : ∃ r : Int, oQ p = some r ∧ 20 * (p.aT.length : Int) ≤ r ∧ r ≤ (CN p : Int) := by
  unfold CN at g
  have key : ∀ (l : List cI) (x : Int), 0 ≤ x → x + (vX l : Int) + (uM p.bP : Int) ≤ 1000000000 → ∃ r : Int, ld p l x = some r ∧ x + 20 * (l.length : Int) ≤ r ∧ r ≤ x + (vX l : Int) + (uM p.bP : Int) := by
    intro l
    induction l with
    | nil =>
      intro x d h
      rw [vX] at h
      obtain ⟨r, e, a, b⟩ := Hc p.bP x d (by omega)
      exact ⟨r, by rw [ld, e]; rfl, by simp; omega, by rw [vX]; omega⟩
    | cons y l ih =>
      intro x d h
      rw [vX] at h
      obtain ⟨r, e, j, k⟩ := B3 y.aI (by omega)
      rw [ld, g6 y.Signed (by omega)]
      simp only [Option.bind_some]
      rw [e, Option.bind_some]
      rw [cP (x := 20 * r) (by omega) (by omega), cP (x := 20 + (rl y.Signed.aB : Int) + (y.Signed.Tag.length : Int) + 20 * r) (by omega) (by omega), cP (by omega) (by omega)]
      obtain ⟨i, e', a, b⟩ := ih (x + (20 + (rl y.Signed.aB : Int) + (y.Signed.Tag.length : Int) + 20 * r)) (by omega) (by omega)
      exact ⟨i, e', by rw [List.length_cons]; omega, by rw [vX]; omega⟩
  obtain ⟨r, e, a, b⟩ := key p.aT (p.Name.size : Int) (by omega) (by omega)
  unfold oQ
  exact ⟨r, e, by omega, by unfold CN; omega⟩
end Go.Proofs.YtmlncblocfcmiaaGreat
namespace Go.Proofs.YtmlncblocfcmiaaGreat
open Go.RowKit
def xo : List Key → Nat
  | [] => 0
  | k :: l => 10 + k.cH.size + k.Key.length + xo l
theorem MA : ∀ (ks : List Key) (x : Int), 0 ≤ x → x + (xo ks : Int) ≤ 2000000000 → jL [] ks x = some (x + (xo ks : Int))
  | [], x, _, _ => by rw [jL, kX, xo]; simp
  | k :: ks, x, a, h => by
    rw [xo] at h
    rw [jL, cP (x := 10 + (k.cH.size : Int)) (by omega) (by omega), cP (x := 10 + (k.cH.size : Int) + (k.Key.length : Int)) (by omega) (by omega), cP (by omega) (by omega), MA ks _ (by omega) (by omega), xo]
    congr 1; omega
structure PQ (p : fK) : Prop extends PP p where
  go : CN p.aC ≤ 1000000000
  gc : CN p.Client ≤ 1000000000
  fs : sH p.Formula ≤ 50000000
  ks : xo p.Keys ≤ 1000000000
theorem Nl (p : fK) (hp : PQ p) : ∃ r : Int, rh p = some r ∧ 20 * (p.aC.aT.length : Int) + 20 * (p.Client.aT.length : Int) ≤ r := by
  have d := hp.go
  have b := hp.gc
  have n := hp.ks
  have a := hp.fs
  obtain ⟨g, j, q, u⟩ := MG p.aC d
  obtain ⟨h, k, s, v⟩ := MG p.Client b
  obtain ⟨i, l, t, w⟩ := B3 p.Formula a
  have m := MA p.Keys 0 (by omega) (by omega)
  unfold rh
  rw [j, Option.bind_some, k, Option.bind_some]
  simp only [Option.bind_some]
  rw [l, Option.bind_some, show ny p.Keys [] = _ from m, Option.bind_some]
  rw [cP (x := g + h) (by omega) (by omega), cP (x := 20 * i) (by omega) (by omega), cP (x := g + h + 20 * i) (by omega) (by omega), cP (by omega) (by omega)]
  exact ⟨_, rfl, by omega⟩
theorem BP (q : oT = some true) (p : fK) (hp : PQ p) : nN p = some true := by
  obtain ⟨g, n, t⟩ := Nl p hp
  unfold nN
  rw [q, n]
  simp only [Option.bind_some, Bool.not_true, Bool.false_eq_true, if_false]
  by_cases h : g > 6000
  · simp only [h, decide_true, if_true]
  · simp only [h, decide_false, Bool.false_eq_true, if_false]
    have ha := hp.o.toPB
    have d := hp.c.toPB
    obtain ⟨a, b, x, y, j, l, k, r, s, i⟩ := xg p ha d hp.lo hp.lc
    have u := List.length_filter_le (fun c => !eP bT x c) a
    have v := List.length_filter_le (fun c => !eP bT y c) b
    have j1 := k.la
    have j2 := k.lb
    have m : js p = some ((IntKind.i64.wrap (((a.filter fun c => !eP bT x c).length : Int) + ((b.filter fun c => !eP bT y c).length : Int))) == 0) := by
      unfold js
      rw [i, Option.bind_some]
    rw [H0 p ha d (by omega) (by omega), Lq p ha d (by omega) (by omega), l, i, m]
    simp only [Option.bind_some]
    rw [DD, DD, DD, DD]
    simp only [Option.bind_some, if_true, beq_self_eq_true]
end Go.Proofs.YtmlncblocfcmiaaGreat
namespace Go.Proofs.YtmlncblocfcmiaaGreat.Lf
open Go.ChangeShapes Go.WideShapes Go.ChangeAt Go.RowKit
open Go.Proofs.YtmlncblocfcmiaaGreat (Rows.uptoBulk Rows.uptoBulkAll Rows.uptoSmall)
theorem KO {H : Type} (d : DataW H) : 1 ≤ Rows.uptoBulk d := by
  cases d with
  | lit l => cases l <;> simp [Rows.uptoBulk]
  | nil => simp [Rows.uptoBulk]
  | ptr d => simp [Rows.uptoBulk]
  | slice a spare => simp [Rows.uptoBulk]
  | agg parts => simp [Rows.uptoBulk]
  | iface t d => simp [Rows.uptoBulk]
  | map entries => simp [Rows.uptoBulk]
  | held h => simp [Rows.uptoBulk]
def BR {α : Type} (P : Program) (t : TypeId) (enc : α → List Value) (sz : α → Nat) : Prop :=
  ∀ (H : Type) (b : TypeId × Value → H) (W : World) (base : Nat) (sp : Nat → Bool) (d : Bool) (fuel : Nat) (cs : List Value) (x : DataW H × List MemPlace),
    DataW.trod b P W base sp d fuel t cs = some x → ∃ a : α, cs = enc a ∧ sz a ≤ Rows.uptoBulk x.1
theorem GM {P : Program} {t : TypeId} (a : P.underlying t = some .string) : BR P t (fun s : ByteArray => [.string s]) (fun s => s.size) := by
  intro H b W base sp d fuel cs x h
  obtain ⟨s, rfl, rfl, _⟩ := DataW.trod_string a h
  refine ⟨s, rfl, ?_⟩
  have e : s.data.toList.length = s.size := by rw [Array.length_toList]; rfl
  simp [Rows.uptoBulk, e]
theorem J8 {P : Program} {t : TypeId} {k : IntKind} (a : P.underlying t = some (.int k)) : BR P t (fun n : Int => [.int k n]) (fun _ => 0) := by
  intro H b W base sp d fuel cs x h
  obtain ⟨n, rfl, rfl, _⟩ := DataW.trod_int a h
  exact ⟨n, rfl, Nat.zero_le _⟩
theorem J9 {α : Type} {n : Nat} {p : Nat → α → Prop} (h : ∀ i, i < n → ∃ x, p i x) : ∃ l : List α, l.length = n ∧ ∀ i x, l[i]? = some x → p i x := by
  induction n with
  | zero => exact ⟨[], rfl, by simp⟩
  | succ n ih =>
    obtain ⟨l, j, k⟩ := ih fun i g => h i (by omega)
    obtain ⟨x, r⟩ := h n (by omega)
    refine ⟨l ++ [x], by simp [j], fun i y d => ?_⟩
    by_cases g : i < l.length
    · rw [List.getElem?b g] at d
      exact k i y d
    · rw [List.getElem?a (by omega)] at d
      have : i - l.length = 0 := by
        cases q : i - l.length with
        | zero => rfl
        | succ m => rw [q] at d; simp at d
      rw [this] at d
      have e : i = n := by omega
      simp at d
      subst d; rw [e]; exact r
theorem D5 {W : World} {a : Addr} {v : Value} (h : W.cell? a = some v) : ∃ cs T fr, W.heap[a.block]? = some (.cells cs T fr) ∧ a.spot = none ∧ cs[a.off]? = some v := by
  unfold World.cell? at h
  split at h
  · b c T fr g
    by_cases d : a.spot.isSome
    · simp [d] at h
    · simp only [d] at h
      exact ⟨c, T, fr, g, by simpa using d, by simpa using h⟩
  · cases h
theorem Ex.below {dd : Bool} {W W' : World} (h : Ex dd W W') : Below W.heap.size W W' := ⟨h.os, h.tape, h.output, h.size, h.eO⟩
theorem xM {H : Type} {l : TypeId × Value → H} {P : Program} (r : laidOutB P = true) {W W' : World} {g : Nat → Bool} :
    ∀ {j : List TypeId} {vs : List Value} {ds : List (DataW H)} {i : List MemPlace}, (∀ t ∈ j, P.readableRec t = true ∧ t < P.types.size) →
      DataW.TrodAll l P W 0 (fun _ => true) true j vs ds i → (∀ p ∈ i, W.sameAt W' p) → (∀ p ∈ i, g p.block = true) → DataW.TrodAll l P W' 0 g true j vs ds i
  | [], _, _, _, _, h, _, _ => by
    obtain ⟨rfl, rfl, rfl⟩ := trodAll_nil h
    exact trodAll_mk0
  | t :: j, _, _, _, k, h, m, n => by
    obtain ⟨v, vs, d, ds, p, q, rfl, rfl, rfl, s, w⟩ := trodAll_cons h
    exact a (WideElems.Trod_stays r (k t (by simp)).1 (k t (by simp)).2 s (fun x b => m x (by simp [b])) (fun x b => n x (by simp [b])))
      (xM r (fun u hu => k u (by simp [hu])) w (fun x b => m x (by simp [b])) (fun x b => n x (by simp [b])))
theorem Gu {H : Type} {enc : TypeId × Value → H} {P : Program} (L : laidOutB P = true) {f : Func} {s : ChangeSpec} {apart fresh handsOn again : Bool} {W W' : World} {args : Array Value} {v : Value} {ds gs : List (DataW H)} {before : List MemPlace} (O : ∀ t ∈ f.params.toList, P.readableRec t = true ∧ t < P.types.size) (n : s.vars = []) (y : DataW.Whole enc P f.params.toList s.vars apart W args.toList ds gs before) {dd : Bool} (F : Ex dd W W') (a : ∀ (b : Nat) (sp : Nat → Bool) (J : Bool), DataW.TrodAll enc P W' b sp J f.resultTypes.toList (v.resultList f.resultTypes.size) (s.fn H (ds ++ gs)).results []) (g : (s.fn H (ds ++ gs)).args = ds) (i : (s.fn H (ds ++ gs)).vars = []) (D : ∀ (j : Nat) (t : TypeId) (r : Value), f.resultTypes[j]? = some t → (v.resultList f.resultTypes.size)[j]? = some r → Value.okWide P W' .any 0 t r) :
    s.post enc P f apart fresh handsOn again W args v W' := by
  have h := y.lt
  have hold : ∀ p ∈ before, (fun b => decide (b < W.heap.size)) p.block = true := fun p hp => by simpa using h p hp
  have A := Ex.below F
  have z := y
  obtain ⟨p, q, I, G, l, Q, M⟩ := y
  rw [n] at G
  obtain ⟨rfl, rfl⟩ := trodVars_none G
  rw [List.append_nil] at l
  subst l
  have m : ∀ sp : Nat → Bool, (∀ p ∈ before, sp p.block = true) → DataW.TrodAll enc P W' 0 sp true f.params.toList args.toList (s.fn H (ds ++ [])).args before := fun sp E => by
    rw [g]
    exact xM L O I (fun x F => A.same (h x F)) E
  have u : ∀ sp : Nat → Bool, DataW.TrodVars enc P W' sp s.vars (s.fn H (ds ++ [])).vars [] := fun sp => by
    rw [i, n]; rfl
  refine ⟨ds, [], before, [], before, [], z, a _ _ _, m _ hold, u _, World.keptBut_mono (fun p hp => ⟨hp, ?_⟩) (A.frame (· ∈ before)), fun _ => ?_⟩
  · exact Or.inr (Or.inl hp)
  · refine ⟨D, _, _, ([] ++ before) ++ [], ⟨[] ++ before, [], trodAll_append (m _ (fun _ _ => rfl)) (a _ _ _), u _, rfl, ?_, ?_⟩, ?_⟩
    · intro b off hp
      have k : MemPlace.cell b off ∈ before := by simpa using hp
      rw [World.frozen?d (w := W) (A.block b (h _ k))]
      exact Q b off k
    · intro ha
      simpa using M ha
    · intro p hp _
      simpa using hp
end Go.Proofs.YtmlncblocfcmiaaGreat.Lf
namespace Go.Proofs.YtmlncblocfcmiaaGreat.Lf
open Go.ChangeShapes Go.WideShapes Go.ChangeAt Go.RowKit
open Go.Proofs.YtmlncblocfcmiaaGreat (Rows.uptoBulk Rows.uptoBulkAll Rows.uptoSmall)
def yP {α : Type} (P : Program) (t : TypeId) (R : jq α) (sz : α → Nat) : Prop :=
  ∀ (H : Type) (b : TypeId × Value → H) (W : World) (base : Nat) (sp : Nat → Bool) (d : Bool) (fuel : Nat) (cs : List Value) (x : DataW H × List MemPlace),
    DataW.trod b P W base sp d fuel t cs = some x → ∃ a : α, R (hp W) cs a ∧ sz a ≤ Rows.uptoBulk x.1
theorem BR.rel {α : Type} {P : Program} {t : TypeId} {enc : α → List Value} {sz : α → Nat} (h : BR P t enc sz) : yP P t (Pl enc) sz := fun H a W base sp b fuel cs x d => h H a W base sp b fuel cs x d
end Go.Proofs.YtmlncblocfcmiaaGreat.Lf
namespace Go.Proofs.YtmlncblocfcmiaaGreat.Lf
open Go.ChangeShapes Go.WideShapes Go.ChangeAt Go.RowKit
open Go.Proofs.YtmlncblocfcmiaaGreat (Rows.uptoBulk Rows.uptoBulkAll Rows.uptoSmall)
theorem Ae {H : Type} : ∀ l : List (DataW H), Rows.uptoBulkAll l = (l.map Rows.uptoBulk).sum
  | [] => by simp [Rows.uptoBulkAll]
  | d :: l => by simp [Rows.uptoBulkAll, Ae l]
theorem HR {α : Type} (g : α → Nat) : ∀ (n : Nat) (f : Nat → Nat) {l : List α}, l.length = n → (∀ i x, l[i]? = some x → g x ≤ f i) → (l.map g).sum ≤ ((List.range n).map f).sum
  | 0, f, l, b, h => by
    obtain rfl := List.length_eq_zero_iff.1 b
    simp
  | n + 1, f, [], b, h => by cases b
  | n + 1, f, a :: l, b, h => by
    rw [List.range_succ_eq_map, List.map_cons, List.map_cons, List.sum_cons, List.sum_cons, List.map_map]
    have j := h 0 a rfl
    have k := HR g n (f ∘ Nat.succ) (l := l) (by simpa using b) (fun i x d => h (i + 1) x (by simpa using d))
    omega
def lI {α : Type} (sz : α → Nat) (l : List α) : Nat := (l.map fun a => max 1 (sz a)).sum
theorem wC {α : Type} (sz : α → Nat) : ∀ l : List α, l.length ≤ lI sz l
  | [] => Nat.le_refl _
  | a :: l => by have := wC sz l; simp only [lI, List.map_cons, List.sum_cons, List.length_cons] at this ⊢; omega
theorem Bs {α : Type} {sz : α → Nat} : ∀ {l : List α} {a : α}, a ∈ l → sz a ≤ lI sz l
  | b :: l, a, h => by
    simp only [lI, List.map_cons, List.sum_cons]
    rcases List.mem_cons.1 h with rfl | h
    · omega
    · have := Bs (sz := sz) h; simp only [lI] at this; omega
theorem zW {α : Type} {P : Program} {t e : TypeId} {k : Nat} {R : jq α} {sz : α → Nat} (hk : P.cellsOf e = k) (Z : 0 < k) (ht : P.underlying t = some (.slice e)) {H : Type} {eh : TypeId × Value → H} {W : World} {base : Nat} {sp : Nat → Bool} {held : Bool} {fuel : Nat} {cs : List Value} {x : DataW H × List MemPlace} (hd : ∀ (fuel : Nat) (cs : List Value) (y : DataW H × List MemPlace), DataW.trod eh P W base sp held fuel e cs = some y → SizeOf.sizeOf y.1 < SizeOf.sizeOf x.1 → ∃ a : α, R (hp W) cs a ∧ sz a ≤ Rows.uptoBulk y.1) (hf : DataW.trod eh P W base sp held fuel t cs = some x) :
    ∃ v l, cs = [v] ∧ Sl R k (hp W) v l ∧ lI sz l ≤ Rows.uptoBulk x.1 := by
  rcases Go.Deep.open_slice ht hf with ⟨rfl, rfl⟩ | ⟨a, ln, cp, m, n, D, Q, rfl, hb, hl, hm, a1, rfl, U⟩
  · exact ⟨_, [], rfl, ⟨none, 0, rfl, Nat.le_refl _, Nat.zero_le _, fun h => absurd h (Nat.lt_irrefl _)⟩, Nat.zero_le _⟩
  · have a7 : ln ≤ m := by rw [a1]; split <;> omega
    have hB : ((List.range ln).map fun i => Rows.uptoBulk (D i)).sum ≤ Rows.uptoBulk (DataW.slice ((List.range ln).map D) ((List.range (m - ln)).map fun j => D (ln + j))) := by
      simp only [Rows.uptoBulk]
      rw [Ae, List.map_map]
      have e : ((List.range ln).map fun i => Rows.uptoBulk (D i)) = (List.range ln).map (Rows.uptoBulk ∘ D) := rfl
      rw [e]
      omega
    have hS : ∀ i, i < ln → SizeOf.sizeOf (D i) < SizeOf.sizeOf (DataW.slice ((List.range ln).map D) ((List.range (m - ln)).map fun j => D (ln + j))) := fun i Y => by
      have := List.sizeOf_lt_of_mem (List.mem_map.2 ⟨i, List.mem_range.2 Y, rfl⟩ : D i ∈ (List.range ln).map D)
      rw [DataW.slice.sizeOf_spec]; omega
    simp only at hd ⊢
    generalize Rows.uptoBulk (DataW.slice ((List.range ln).map D) ((List.range (m - ln)).map fun j => D (ln + j))) = B at hB
    obtain ⟨l, a0, z⟩ := J9 (α := α) (n := ln) (p := fun i x => ∃ b, W.cells? base (a.add (i * k)) k = some b ∧ R (hp W) b x ∧ sz x ≤ Rows.uptoBulk (D i)) fun i Y => by
      obtain ⟨b, G, J⟩ := U i (by omega)
      obtain ⟨x, hR, L⟩ := hd _ _ _ J (hS i Y)
      rw [hk] at G
      exact ⟨x, b, G, hR, L⟩
    subst a0
    refine ⟨_, l, rfl, ⟨some a, cp, rfl, hl, hm, fun h0 => ?_⟩, ?_⟩
    · have q : ∀ i x, l[i]? = some x → ∃ b, R (hp W) b x ∧ b.length = k ∧ ∀ j, j < k → W.cell? ((a.add (i * k)).add j) = b[j]? := fun i x A =>
        let ⟨b, G, J, _⟩ := z i x A
        let ⟨_, L, h4⟩ := World.cells?I G
        ⟨b, J, L, h4⟩
      obtain ⟨a4, _, h4, h5⟩ := q 0 l[0] (by simp [h0])
      have M := h5 0 Z
      rw [Nat.zero_mul, List.getElem?g (by omega)] at M
      have e0 : (a.add 0).add 0 = a := rfl
      rw [e0] at M
      obtain ⟨cs, T, fr, O, h8, _⟩ := D5 M
      obtain ⟨E, F, a3⟩ := a
      simp only at O h8
      subst h8
      refine ⟨E, F, cs, T, fr, rfl, O, fun i x A => ?_⟩
      obtain ⟨b, gR, g1, g2⟩ := q i x A
      refine ⟨b, g1, gR, fun j y hy => ?_⟩
      have hj : j < k := by
        rw [← g1]
        exact (List.getElem?d.1 hy).1
      have h9 := g2 j hj
      rw [Go.Deep.add_add, hy] at h9
      obtain ⟨a2, T', a5, s, a6, u⟩ := D5 h9
      have w : (Addr.add ⟨E, F, none⟩ (i * k + j)).block = E ∧ (Addr.add ⟨E, F, none⟩ (i * k + j)).off = F + (i * k + j) := by
        unfold Addr.add
        split
        · r hz
          rw [hz]; exact ⟨rfl, rfl⟩
        · exact ⟨rfl, rfl⟩
      rw [w.1, O] at s
      cases s
      rw [w.2, ← Nat.add_assoc] at u
      exact u
    · refine Nat.le_trans (HR _ _ _ rfl fun i x A => ?_) hB
      exact Nat.max_le.2 ⟨KO _, (z i x A).elim fun _ h => h.2.2⟩
theorem mP {α : Type} {P : Program} {t e : TypeId} {k : Nat} {R : jq α} {sz : α → Nat} (i : P.cellsOf e = k) (a : 0 < k) (d : yP P e R sz) (j : P.underlying t = some (.slice e)) {H : Type} {b : TypeId × Value → H} {W : World} {base : Nat} {sp : Nat → Bool} {held : Bool} {fuel : Nat} {cs : List Value} {x : DataW H × List MemPlace} (g : DataW.trod b P W base sp held fuel t cs = some x) :
    ∃ v l, cs = [v] ∧ Sl R k (hp W) v l ∧ lI sz l ≤ Rows.uptoBulk x.1 := zW i a j (fun _ _ _ h _ => d _ _ _ _ _ _ _ _ _ h) g
end Go.Proofs.YtmlncblocfcmiaaGreat.Lf
namespace Go.Proofs.YtmlncblocfcmiaaGreat.Lf
open Go.ChangeShapes Go.WideShapes Go.ChangeAt Go.RowKit
open Go.Proofs.YtmlncblocfcmiaaGreat (Rows.uptoBulk Rows.uptoBulkAll Rows.uptoSmall)
def FJ {α : Type} (R : jq α) (Q : α → Prop) : jq α := fun μ ys x => R μ ys x ∧ Q x
theorem Sl.all {α : Type} {R : jq α} {Q : α → Prop} {k : Nat} {μ : bW} {v : Value} {l : List α} (h : Sl (FJ R Q) k μ v l) : Sl R k μ v l ∧ ∀ x ∈ l, Q x := by
  obtain ⟨A, c, rfl, j, m, r⟩ := h
  cases l with
  | nil => exact ⟨⟨A, c, rfl, j, m, fun h => absurd h (by simp)⟩, by simp⟩
  | cons a l =>
    obtain ⟨b, o, cs, T, fr, e, s, n⟩ := r (by simp)
    refine ⟨⟨A, c, rfl, j, m, fun _ => ⟨b, o, cs, T, fr, e, s, fun i x g => ?_⟩⟩, fun x g => ?_⟩
    · obtain ⟨ys, p, d, q⟩ := n i x g
      exact ⟨ys, p, d.1, q⟩
    · obtain ⟨i, t⟩ := List.mem_iff_getElem?.1 g
      obtain ⟨ys, p, d, q⟩ := n i x t
      exact d.2
theorem Km {P : Program} {t : TypeId} (a : P.underlying t = some (.int .u8)) : yP P t (FJ (Pl (dM .u8)) (fun x => 0 ≤ x ∧ x < 256)) (fun _ => 0) := by
  intro H b W base sp d fuel cs x h
  obtain ⟨n, rfl, rfl, hw⟩ := DataW.trod_int a h
  refine ⟨n, ⟨rfl, ?_⟩, Nat.zero_le _⟩
  simp [Lit.wf, IntKind.min, IntKind.max, IntKind.bits, IntKind.signed] at hw
  omega
end Go.Proofs.YtmlncblocfcmiaaGreat.Lf
namespace Go.Proofs.YtmlncblocfcmiaaGreat
set_option maxRecDepth 10000
open Go.ChangeShapes Go.WideShapes Go.ChangeAt Go.RowKit
open Go.Proofs.YtmlncblocfcmiaaGreat Go.Proofs.YtmlncblocfcmiaaGreat.Lf
theorem IZ : Tryz.prog.cellsOf 116 = 18 := by a
theorem Ko {α : Type} {l : List α} (h : l.length = 9) : ∃ a b d g i j k m n, l = [a, b, d, g, i, j, k, m, n] := by
  match l, h with
  | [a, b, d, g, i, j, k, m, n], _ => exact ⟨a, b, d, g, i, j, k, m, n, rfl⟩
theorem Mn {α : Type} {l : List α} (h : l.length = 18) : ∃ n p q r s t u v w x a b d g i j k m, l = [n, p, q, r, s, t, u, v, w, x, a, b, d, g, i, j, k, m] := by
  match l, h with
  | [n, p, q, r, s, t, u, v, w, x, a, b, d, g, i, j, k, m], _ => exact ⟨n, p, q, r, s, t, u, v, w, x, a, b, d, g, i, j, k, m, rfl⟩
theorem I4 : Tryz.prog.cellsOf 110 = 3 := by a
theorem ID {α : Type} {l : List α} (h : l.length = 3) : ∃ a b d, l = [a, b, d] := by
  match l, h with
  | [a, b, d], _ => exact ⟨a, b, d, rfl⟩
theorem zb : Tryz.prog.cellsOf 9 = 1 := by a
theorem An : BR Tryz.prog 9 (fun s : ByteArray => [.string s]) (fun s => s.size) := GM Tryz.underlying9
theorem EU : Tryz.prog.cellsOf 107 = 1 := by a
theorem Am : Tryz.prog.cellsOf 138 = 15 := by a
theorem yt {α : Type} {l : List α} (h : l.length = 2) : ∃ a b, l = [a, b] := by
  match l, h with
  | [a, b], _ => exact ⟨a, b, rfl⟩
theorem Mg {α : Type} {l : List α} (h : l.length = 15) : ∃ j k m n p q r s t u a b d g i, l = [j, k, m, n, p, q, r, s, t, u, a, b, d, g, i] := by
  match l, h with
  | [j, k, m, n, p, q, r, s, t, u, a, b, d, g, i], _ => exact ⟨j, k, m, n, p, q, r, s, t, u, a, b, d, g, i, rfl⟩
theorem JA : Tryz.prog.cellsOf 56 = 10 := by a
theorem BW : Tryz.prog.cellsOf 53 = 9 := by a
theorem xw : BR Tryz.prog 3 (fun n : Int => [.int .i64 n]) (fun _ => 0) := J8 Tryz.underlying3
theorem AW : Tryz.prog.cellsOf 3 = 1 := by a
theorem zj : Tryz.prog.cellsOf 28 = 2 := by a
def qL (x : aA) : Nat := x.aC.size + x.aJ.size
theorem Bo : BR Tryz.prog 28 aM qL := by
  intro H i W base sp l fuel cs x h
  obtain ⟨xs, n, _, rfl, r, hlen, m⟩ := DataW.trod_struct Tryz.underlying28 h
  obtain ⟨t, u, rfl⟩ := yt hlen
  obtain ⟨a, b, rfl⟩ := yt (r.trans zj)
  have j : DataW.trod i Tryz.prog W base sp l n 9 (([a, b].drop 0).take (Tryz.prog.cellsOf 9)) = some t := m 0 _ rfl
  have k : DataW.trod i Tryz.prog W base sp l n 9 (([a, b].drop 1).take (Tryz.prog.cellsOf 9)) = some u := m 1 _ rfl
  simp only [zb, List.drop, List.take] at j k
  obtain ⟨s, d, p⟩ := An _ _ _ _ _ _ _ _ _ j
  obtain ⟨s1, g, q⟩ := An _ _ _ _ _ _ _ _ _ k
  simp only [List.cons.injEq, and_true] at d g
  obtain rfl := d
  obtain rfl := g
  refine ⟨⟨s, s1⟩, rfl, ?_⟩
  simp only [List.map, Rows.uptoBulk, Rows.uptoBulkAll, qL] at p q ⊢
  omega
theorem MV {α : Type} {l : List α} (h : l.length = 6) : ∃ a b d g i j, l = [a, b, d, g, i, j] := by
  match l, h with
  | [a, b, d, g, i, j], _ => exact ⟨a, b, d, g, i, j, rfl⟩
def ot (x : aB) : Nat := qL x.Head + x.cH.size + qL x.B + qL x.C + x.cO.size
theorem Jl : BR Tryz.prog 53 aG ot := by
  intro H p W base sp q fuel cs x h
  obtain ⟨xs, n, _, rfl, Q, hlen, r⟩ := DataW.trod_struct Tryz.underlying53 h
  obtain ⟨Z, y1, y2, y3, y4, y5, rfl⟩ := MV hlen
  obtain ⟨a, b, d, g, i, j, k, l, m, rfl⟩ := Ko (Q.trans BW)
  have z : DataW.trod p Tryz.prog W base sp q n 3 (([a, b, d, g, i, j, k, l, m].drop 0).take (Tryz.prog.cellsOf 3)) = some Z := r 0 _ rfl
  have A : DataW.trod p Tryz.prog W base sp q n 28 (([a, b, d, g, i, j, k, l, m].drop 1).take (Tryz.prog.cellsOf 28)) = some y1 := r 1 _ rfl
  have D : DataW.trod p Tryz.prog W base sp q n 9 (([a, b, d, g, i, j, k, l, m].drop 3).take (Tryz.prog.cellsOf 9)) = some y2 := r 2 _ rfl
  have E : DataW.trod p Tryz.prog W base sp q n 28 (([a, b, d, g, i, j, k, l, m].drop 4).take (Tryz.prog.cellsOf 28)) = some y3 := r 3 _ rfl
  have F : DataW.trod p Tryz.prog W base sp q n 28 (([a, b, d, g, i, j, k, l, m].drop 6).take (Tryz.prog.cellsOf 28)) = some y4 := r 4 _ rfl
  have G : DataW.trod p Tryz.prog W base sp q n 9 (([a, b, d, g, i, j, k, l, m].drop 8).take (Tryz.prog.cellsOf 9)) = some y5 := r 5 _ rfl
  simp only [zj, AW, zb, List.drop, List.take] at z A D E F G
  obtain ⟨R, s, I⟩ := xw _ _ _ _ _ _ _ _ _ z
  obtain ⟨s1, t, J⟩ := Bo _ _ _ _ _ _ _ _ _ A
  obtain ⟨s2, u, L⟩ := An _ _ _ _ _ _ _ _ _ D
  obtain ⟨T, v, M⟩ := Bo _ _ _ _ _ _ _ _ _ E
  obtain ⟨U, w, O⟩ := Bo _ _ _ _ _ _ _ _ _ F
  obtain ⟨Y, y, P⟩ := An _ _ _ _ _ _ _ _ _ G
  simp only [aM, List.cons.injEq, and_true] at s t u v w y
  obtain rfl := s
  obtain ⟨rfl, rfl⟩ := t
  obtain rfl := u
  obtain ⟨rfl, rfl⟩ := v
  obtain ⟨rfl, rfl⟩ := w
  obtain rfl := y
  refine ⟨⟨R, s1, s2, T, U, Y⟩, rfl, ?_⟩
  simp only [List.map, Rows.uptoBulk, Rows.uptoBulkAll, ot] at I J L M O P ⊢
  omega
theorem FF : Tryz.prog.cellsOf 54 = 1 := by a
theorem He : Tryz.prog.cellsOf 5 = 1 := by a
theorem Jj : yP Tryz.prog 5 (FJ (Pl (dM .u8)) (fun x => 0 ≤ x ∧ x < 256)) (fun _ => 0) := Km Tryz.underlying5
theorem uP : Tryz.prog.cellsOf 113 = 5 := by a
theorem MT {α : Type} {l : List α} (h : l.length = 4) : ∃ a b d g, l = [a, b, d, g] := by
  match l, h with
  | [a, b, d, g], _ => exact ⟨a, b, d, g, rfl⟩
theorem M0 {α : Type} {l : List α} (h : l.length = 5) : ∃ a b d g i, l = [a, b, d, g, i] := by
  match l, h with
  | [a, b, d, g, i], _ => exact ⟨a, b, d, g, i, rfl⟩
theorem H4 : Tryz.prog.cellsOf 111 = 1 := by a
theorem ML {H : Type} {x : DataW H × List MemPlace} {ys : List (DataW H × List MemPlace)} {p : List MemPlace} (a : x = (.agg (ys.map (·.1)), p)) (i : Nat) {y : DataW H × List MemPlace} (h : ys[i]? = some y) : SizeOf.sizeOf y.1 < SizeOf.sizeOf x.1 := by
  subst a
  have := List.sizeOf_lt_of_mem (List.mem_map.2 ⟨y, List.mem_of_getElem? h, rfl⟩ : y.1 ∈ ys.map (·.1))
  simp only [DataW.agg.sizeOf_spec]; omega
theorem DR : ∀ l : List Formula, szFL l ≤ lI sH l
  | [] => Nat.le_refl _
  | k :: l => by have := DR l; rw [szFL]; simp only [lI, List.map_cons, List.sum_cons] at this ⊢; omega
theorem JS : ∀ (N : Nat) (H : Type) (I : TypeId × Value → H) (W : World) (base : Nat) (sp : Nat → Bool) (J : Bool) (fuel : Nat) (cs : List Value) (x : DataW H × List MemPlace),
    DataW.trod I Tryz.prog W base sp J fuel 113 cs = some x → SizeOf.sizeOf x.1 < N → ∃ a : Formula, aD (hp W) cs a ∧ sH a ≤ Rows.uptoBulk x.1 := by
  intro N
  induction N with
  | zero => intro _ _ _ _ _ _ _ _ _ _ h; exact absurd h (Nat.not_lt_zero _)
  | succ N ih =>
    intro H I W base sp J fuel cs x h hN
    obtain ⟨a0, w, _, r, A, q, k⟩ := DataW.trod_struct Tryz.underlying113 h
    obtain ⟨s, t, u, v, rfl⟩ := MT q
    obtain ⟨b, d, g, i, j, rfl⟩ := M0 (A.trans uP)
    have l : DataW.trod _ Tryz.prog W _ _ _ w 3 (([b, d, g, i, j].drop 0).take (Tryz.prog.cellsOf 3)) = some s := k 0 _ rfl
    have m : DataW.trod _ Tryz.prog W _ _ _ w 3 (([b, d, g, i, j].drop 1).take (Tryz.prog.cellsOf 3)) = some t := k 1 _ rfl
    have n : DataW.trod _ Tryz.prog W _ _ _ w 28 (([b, d, g, i, j].drop 2).take (Tryz.prog.cellsOf 28)) = some u := k 2 _ rfl
    have p : DataW.trod _ Tryz.prog W _ _ _ w 111 (([b, d, g, i, j].drop 4).take (Tryz.prog.cellsOf 111)) = some v := k 3 _ rfl
    simp only [H4, zj, AW, List.drop, List.take] at l m n p
    obtain ⟨s2, D, O⟩ := xw _ _ _ _ _ _ _ _ _ l
    simp only [List.cons.injEq, and_true] at D
    obtain rfl := D
    obtain ⟨Y, E, P⟩ := xw _ _ _ _ _ _ _ _ _ m
    simp only [List.cons.injEq, and_true] at E
    obtain rfl := E
    obtain ⟨Z, F, Q⟩ := Bo _ _ _ _ _ _ _ _ _ n
    simp only [aM, List.cons.injEq, and_true] at F
    obtain ⟨rfl, rfl⟩ := F
    obtain ⟨v5, L, G, U, R⟩ := zW uP (by decide) Tryz.underlying111 (fun f cs y h T => ih _ _ _ _ _ _ _ _ _ h (by have := ML r 3 rfl; omega)) p
    simp only [List.cons.injEq, and_true] at G
    obtain rfl := G
    have M := congrArg (fun z => Rows.uptoBulk z.1) r
    refine ⟨⟨s2, Y, Z, L⟩, aD.mk ⟨_, rfl, U⟩, ?_⟩
    have T := DR L
    simp only [List.map, Rows.uptoBulk, Rows.uptoBulkAll, qL] at O P Q R M ⊢
    rw [Eo]
    simp only
    omega
theorem Cu : yP Tryz.prog 113 aD sH := fun H a W base sp b fuel cs x h => JS _ H a W base sp b fuel cs x h (Nat.lt_succ_self _)
def nH (x : cI) : Nat := ot x.Signed.aB + lI (fun _ : Int => 0) x.Signed.Tag + 1 + sH x.aI + 1
def Hz (x : cI) : Prop := (∀ y ∈ x.Signed.Tag, 0 ≤ y ∧ y < 256)
theorem FN : yP Tryz.prog 138 (FJ bN Hz) nH := by
  intro H eh W base sp hd fuel cs x h
  obtain ⟨a1, n6, _, R, Q, A, G⟩ := DataW.trod_struct Tryz.underlying138 h
  obtain ⟨J, L, rfl⟩ := yt A
  obtain ⟨a, b, d, g, i, j, k, l, m, n, p, q, r, s, t, rfl⟩ := Mg (Q.trans Am)
  have u : DataW.trod _ Tryz.prog W _ _ _ n6 56 (([a, b, d, g, i, j, k, l, m, n, p, q, r, s, t].drop 0).take (Tryz.prog.cellsOf 56)) = some J := G 0 _ rfl
  have v : DataW.trod _ Tryz.prog W _ _ _ n6 113 (([a, b, d, g, i, j, k, l, m, n, p, q, r, s, t].drop 10).take (Tryz.prog.cellsOf 113)) = some L := G 1 _ rfl
  simp only [uP, JA, List.drop, List.take] at u v
  obtain ⟨a2, n7, _, T, a0, D, I⟩ := DataW.trod_struct Tryz.underlying56 u
  obtain ⟨M, O, rfl⟩ := yt D
  have w : DataW.trod _ Tryz.prog W _ _ _ n7 53 (([a, b, d, g, i, j, k, l, m, n].drop 0).take (Tryz.prog.cellsOf 53)) = some M := I 0 _ rfl
  have y : DataW.trod _ Tryz.prog W _ _ _ n7 54 (([a, b, d, g, i, j, k, l, m, n].drop 9).take (Tryz.prog.cellsOf 54)) = some O := I 1 _ rfl
  simp only [BW, FF, List.drop, List.take] at w y
  obtain ⟨s8, Z, b8⟩ := Jl _ _ _ _ _ _ _ _ _ w
  simp only [aG, aM, List.cons.injEq, and_true] at Z
  obtain ⟨rfl, rfl, rfl, rfl, rfl, rfl, rfl, rfl, rfl⟩ := Z
  obtain ⟨v9, s9, e9, U, b9⟩ := mP He (by decide) Jj Tryz.underlying54 y
  simp only [List.cons.injEq, and_true] at e9
  obtain rfl := e9
  obtain ⟨U, g9⟩ := Lf.Sl.all U
  have b7 := congrArg (fun z => Rows.uptoBulk z.1) T
  obtain ⟨Y, E, P⟩ := Cu _ _ _ _ _ _ _ _ _ v
  obtain ⟨v10, F, E⟩ := E.out
  simp only [List.cons.injEq, and_true] at F
  obtain ⟨rfl, rfl, rfl, rfl, rfl⟩ := F
  have b6 := congrArg (fun z => Rows.uptoBulk z.1) R
  refine ⟨⟨⟨s8, s9⟩, Y⟩, ⟨bN.mk ⟨_, _, rfl, U, E⟩, g9⟩, ?_⟩
  simp only [List.map, Rows.uptoBulk, Rows.uptoBulkAll, nH] at b8 b9 b7 P b6 ⊢
  omega
theorem ES : Tryz.prog.cellsOf 108 = 1 := by a
theorem AF : Tryz.prog.cellsOf 263 = 8 := by a
theorem M1 {α : Type} {l : List α} (h : l.length = 8) : ∃ a b d g i j k m, l = [a, b, d, g, i, j, k, m] := by
  match l, h with
  | [a, b, d, g, i, j, k, m], _ => exact ⟨a, b, d, g, i, j, k, m, rfl⟩
theorem JX : Tryz.prog.cellsOf 22 = 1 := by a
def re (x : gM) : Nat := qL x.aA + sH x.aI + lI ot x.eQ + 1
def Mb (x : gM) : Prop := True
theorem FU : yP Tryz.prog 263 (FJ dF Mb) re := by
  intro H Y W base sp Z fuel cs x h
  obtain ⟨R, s, _, F, E, r, q⟩ := DataW.trod_struct Tryz.underlying263 h
  obtain ⟨u, v, w, rfl⟩ := ID r
  obtain ⟨a, b, d, g, i, j, k, l, rfl⟩ := M1 (E.trans AF)
  have m : DataW.trod _ Tryz.prog W _ _ _ s 28 (([a, b, d, g, i, j, k, l].drop 0).take (Tryz.prog.cellsOf 28)) = some u := q 0 _ rfl
  have n : DataW.trod _ Tryz.prog W _ _ _ s 113 (([a, b, d, g, i, j, k, l].drop 2).take (Tryz.prog.cellsOf 113)) = some v := q 1 _ rfl
  have p : DataW.trod _ Tryz.prog W _ _ _ s 22 (([a, b, d, g, i, j, k, l].drop 7).take (Tryz.prog.cellsOf 22)) = some w := q 2 _ rfl
  simp only [uP, JX, zj, List.drop, List.take] at m n p
  obtain ⟨O, y, I⟩ := Bo _ _ _ _ _ _ _ _ _ m
  simp only [aM, List.cons.injEq, and_true] at y
  obtain ⟨rfl, rfl⟩ := y
  obtain ⟨P, t, J⟩ := Cu _ _ _ _ _ _ _ _ _ n
  obtain ⟨T, A, t⟩ := t.out
  simp only [List.cons.injEq, and_true] at A
  obtain ⟨rfl, rfl, rfl, rfl, rfl⟩ := A
  obtain ⟨U, Q, D, M, L⟩ := mP BW (by decide) Jl.rel Tryz.underlying22 p
  simp only [List.cons.injEq, and_true] at D
  obtain rfl := D
  have G := congrArg (fun z => Rows.uptoBulk z.1) F
  refine ⟨⟨O, P, Q⟩, ⟨dF.mk ⟨_, _, rfl, t, M⟩, trivial⟩, ?_⟩
  simp only [List.map, Rows.uptoBulk, Rows.uptoBulkAll, re] at I J L G ⊢
  omega
theorem EZ : Tryz.prog.cellsOf 114 = 2 := by a
def ya (x : rF) : Nat := 0
theorem KB : BR Tryz.prog 114 Bb ya := by
  intro H i W base sp l fuel cs x h
  obtain ⟨xs, n, _, rfl, r, hlen, m⟩ := DataW.trod_array Tryz.underlying114 h
  obtain ⟨t, u, rfl⟩ := yt hlen
  obtain ⟨a, b, rfl⟩ := yt (r.trans EZ)
  have j : DataW.trod i Tryz.prog W base sp l n 3 (([a, b].drop (0 * Tryz.prog.cellsOf 3)).take (Tryz.prog.cellsOf 3)) = some t := m 0 (by decide)
  have k : DataW.trod i Tryz.prog W base sp l n 3 (([a, b].drop (1 * Tryz.prog.cellsOf 3)).take (Tryz.prog.cellsOf 3)) = some u := m 1 (by decide)
  simp only [AW, List.drop, List.take, Nat.reduceMul] at j k
  obtain ⟨s, d, p⟩ := xw _ _ _ _ _ _ _ _ _ j
  obtain ⟨s1, g, q⟩ := xw _ _ _ _ _ _ _ _ _ k
  simp only [List.cons.injEq, and_true] at d g
  obtain rfl := d
  obtain rfl := g
  refine ⟨⟨s, s1⟩, rfl, ?_⟩
  simp only [List.map, Rows.uptoBulk, Rows.uptoBulkAll, ya] at p q ⊢
  omega
theorem JW : Tryz.prog.cellsOf 49 = 1 := by a
theorem EG : Tryz.prog.cellsOf 196 = 2 := by a
def vK (x : Key) : Nat := x.cH.size + lI (fun _ : Int => 0) x.Key + 1
def LS (x : Key) : Prop := (∀ y ∈ x.Key, 0 ≤ y ∧ y < 256)
theorem Kc : yP Tryz.prog 196 (FJ jQ LS) vK := by
  intro H F W base sp G fuel cs x h
  obtain ⟨D, s, _, r, q, i, j⟩ := DataW.trod_struct Tryz.underlying196 h
  obtain ⟨l, m, rfl⟩ := yt i
  obtain ⟨a, b, rfl⟩ := yt (q.trans EG)
  have d : DataW.trod _ Tryz.prog W _ _ _ s 9 (([a, b].drop 0).take (Tryz.prog.cellsOf 9)) = some l := j 0 _ rfl
  have g : DataW.trod _ Tryz.prog W _ _ _ s 54 (([a, b].drop 1).take (Tryz.prog.cellsOf 54)) = some m := j 1 _ rfl
  simp only [FF, zb, List.drop, List.take] at d g
  obtain ⟨y, n, u⟩ := An _ _ _ _ _ _ _ _ _ d
  simp only [List.cons.injEq, and_true] at n
  obtain rfl := n
  obtain ⟨E, A, p, k, v⟩ := mP He (by decide) Jj Tryz.underlying54 g
  simp only [List.cons.injEq, and_true] at p
  obtain rfl := p
  obtain ⟨k, w⟩ := Lf.Sl.all k
  have t := congrArg (fun z => Rows.uptoBulk z.1) r
  refine ⟨⟨y, A⟩, ⟨jQ.mk ⟨_, rfl, k⟩, w⟩, ?_⟩
  simp only [List.map, Rows.uptoBulk, Rows.uptoBulkAll, vK] at u v t ⊢
  omega
def BS (x : fK) : Nat := x.aC.Name.size + lI nH x.aC.aT + lI re x.aC.bP + 1 + x.Client.Name.size + lI nH x.Client.aT + lI re x.Client.bP + 1 + sH x.Formula + ya x.fg + lI vK x.Keys + 1
theorem Mi : Tryz.prog.readableRec 116 = true ∧ 116 < Tryz.prog.types.size := ⟨by a, of_decide_eq_true (by a)⟩
theorem xv (c : aB) : rl c = ot c := by unfold rl ot qL; omega
theorem Fk {α : Type} (sz : α → Nat) (h : ∀ a, 2 ≤ sz a) : ∀ l : List α, 2 * l.length ≤ lI sz l
  | [] => Nat.zero_le _
  | a :: l => by have := Fk sz h l; have := h a; simp only [lI, List.map_cons, List.sum_cons, List.length_cons] at *; omega
theorem uK (y : cI) : nH y = ot y.Signed.aB + lI (fun _ : Int => 0) y.Signed.Tag + 1 + sH y.aI + 1 := rfl
theorem DW (y : gM) : re y = qL y.aA + sH y.aI + lI ot y.eQ + 1 := rfl
theorem I0 (y : Key) : vK y = y.cH.size + lI (fun _ : Int => 0) y.Key + 1 := rfl
theorem Fq : ∀ l : List aB, rn l ≤ 21 * lI ot l
  | [] => Nat.zero_le _
  | c :: l => by have := Fq l; rw [rn, xv]; simp only [lI, List.map_cons, List.sum_cons] at *; omega
theorem Ft : ∀ l : List cI, vX l ≤ 21 * lI nH l
  | [] => Nat.zero_le _
  | x :: l => by
    have := Ft l
    have := wC (fun _ : Int => 0) x.Signed.Tag
    rw [vX, xv]
    have e := uK x
    simp only [lI, List.map_cons, List.sum_cons] at *; omega
theorem FG : ∀ l : List gM, uM l ≤ 21 * lI re l
  | [] => Nat.zero_le _
  | x :: l => by
    have := FG l
    have := Fq x.eQ
    rw [uM]
    have e := DW x
    unfold qL at e
    have a : lI re (x :: l) = max 1 (re x) + lI re l := rfl
    omega
theorem FV : ∀ l : List Key, xo l ≤ 11 * lI vK l
  | [] => Nat.zero_le _
  | x :: l => by
    have := FV l
    have := wC (fun _ : Int => 0) x.Key
    rw [xo]
    have e := I0 x
    have a : lI vK (x :: l) = max 1 (vK x) + lI vK l := rfl
    omega
theorem EY (x : cR) (j : x.Name.size ≤ 1048576) (k : lI nH x.aT ≤ 1048576) (l : lI re x.bP ≤ 1048576) : PG x ∧ x.aT.length ≤ 600000 ∧ CN x ≤ 1000000000 := by
  have h := Fk nH (fun y => by rw [uK]; omega) x.aT
  have i := wC re x.bP
  have d : ∀ y ∈ x.aT, ot y.Signed.aB ≤ 1048576 ∧ cE y.aI ≤ 1048576 := fun y a => by
    have := Bs (sz := nH) a
    have e := uK y
    have := vN y.aI
    omega
  have b : ∀ y ∈ x.bP, cE y.aI ≤ 1048576 ∧ lI ot y.eQ ≤ 1048576 := fun y a => by
    have := Bs (sz := re) a
    have e := DW y
    have := vN y.aI
    omega
  refine ⟨{ Bk := by omega, Gs := by omega, rel := fun y a => ?_, Gl := fun y a => ?_, ME := fun y a => ?_, M9 := fun y a => ?_, M7 := fun y a c g => ?_ }, by omega, ?_⟩
  · have := (d y a).2; omega
  · have := (b y a).1; omega
  · have := (b y a).2; have := wC ot y.eQ; omega
  · have := (d y a).1; rw [xv]; omega
  · have := (b y a).2; have := Bs (sz := ot) g; rw [xv]; omega
  · have := Ft x.aT; have := FG x.bP; unfold CN; omega
theorem JY (p : fK) (h : BS p ≤ 1048576) : PQ p := by
  unfold BS at h
  have a := EY p.aC (by omega) (by omega) (by omega)
  have b := EY p.Client (by omega) (by omega) (by omega)
  have k := FV p.Keys
  have f := vN p.Formula
  exact { o := a.1, c := b.1, lo := a.2.1, lc := b.2.1, f := by omega, go := a.2.2, gc := b.2.2, fs := by omega, ks := by omega }
theorem own : ownKnob Tryz.prog.godebug = none := by a
theorem Ic : laidOutB Tryz.prog = true := by a
theorem Iz (H : Type) (enc : TypeId × Value → H) (W : World) (base : Nat) (args : Array Value) (ds gs : List (DataW H)) (before : List MemPlace) (a9 : ∀ (j : Nat) t v, Tryz.f11.params[j]? = some t → args[j]? = some v → Value.okWide Tryz.prog W .any base t v) (hW : DataW.Whole enc Tryz.prog Tryz.f11.params.toList Rows.stuckTellsSpec.vars false W args.toList ds gs before) (hk : Rows.uptoSmall H (ds ++ gs) = true) :
    Calls Tryz.prog 11 args W fun e W' => ∃ v, e = .returned v ∧ Rows.stuckTellsSpec.post enc Tryz.prog Tryz.f11 false true false false W args v W' := by
  have cr := hW
  obtain ⟨p, q, cq, hV, rfl, d6, d7⟩ := hW
  have hA : DataW.TrodAll enc Tryz.prog W 0 (fun _ => true) true Tryz.f11.params.toList args.toList ds p := cq
  have hr : ∀ t ∈ Tryz.f11.params.toList, Tryz.prog.readableRec t = true ∧ t < Tryz.prog.types.size := by
    rw [Tryz.params11]
    intro t ht
    simp only [List.mem_cons, List.not_mem_nil, or_false] at ht
    subst ht
    exact Mi
  rw [Tryz.params11] at hA a9
  obtain ⟨v0, dg, d0, cz, p0, q0, cs, rfl, rfl, h0, r0⟩ := trodAll_cons hA
  obtain ⟨rfl, rfl, rfl⟩ := trodAll_nil r0
  obtain rfl : args = #[v0] := by cases args; bi
  obtain ⟨rfl, rfl⟩ := trodVars_none hV
  have k0 := a9 0 116 v0 rfl rfl
  obtain ⟨bj, rfl, _⟩ := okWide_struct Tryz.underlying116 k0
  obtain ⟨cS, c1⟩ := h0
  obtain ⟨ct, rfl⟩ : ∃ l : List Value, bj = l.toArray := ⟨bj.toList, by simp⟩
  change DataW.trod _ _ _ _ _ _ _ _ ct = some _ at c1
  obtain ⟨cw, G, _, c3, c2, a6, F⟩ := DataW.trod_struct Tryz.underlying116 c1
  obtain ⟨b0, b1, b2, b3, b4, b5, b6, b7, b9, rfl⟩ := Ko a6
  obtain ⟨k, a, b, m, d, g, y, A, D, E, h, n, r, s, u, w, x, i, rfl⟩ := Mn (c2.trans IZ)
  have J : DataW.trod _ Tryz.prog W _ _ _ G 110 (([k, a, b, m, d, g, y, A, D, E, h, n, r, s, u, w, x, i].drop 0).take (Tryz.prog.cellsOf 110)) = some b0 := F 0 _ rfl
  have L : DataW.trod _ Tryz.prog W _ _ _ G 110 (([k, a, b, m, d, g, y, A, D, E, h, n, r, s, u, w, x, i].drop 3).take (Tryz.prog.cellsOf 110)) = some b1 := F 1 _ rfl
  have M : DataW.trod _ Tryz.prog W _ _ _ G 113 (([k, a, b, m, d, g, y, A, D, E, h, n, r, s, u, w, x, i].drop 6).take (Tryz.prog.cellsOf 113)) = some b2 := F 2 _ rfl
  have O : DataW.trod _ Tryz.prog W _ _ _ G 3 (([k, a, b, m, d, g, y, A, D, E, h, n, r, s, u, w, x, i].drop 11).take (Tryz.prog.cellsOf 3)) = some b3 := F 3 _ rfl
  have P : DataW.trod _ Tryz.prog W _ _ _ G 114 (([k, a, b, m, d, g, y, A, D, E, h, n, r, s, u, w, x, i].drop 12).take (Tryz.prog.cellsOf 114)) = some b4 := F 4 _ rfl
  have Q : DataW.trod _ Tryz.prog W _ _ _ G 3 (([k, a, b, m, d, g, y, A, D, E, h, n, r, s, u, w, x, i].drop 14).take (Tryz.prog.cellsOf 3)) = some b5 := F 5 _ rfl
  have R : DataW.trod _ Tryz.prog W _ _ _ G 3 (([k, a, b, m, d, g, y, A, D, E, h, n, r, s, u, w, x, i].drop 15).take (Tryz.prog.cellsOf 3)) = some b6 := F 6 _ rfl
  have T : DataW.trod _ Tryz.prog W _ _ _ G 3 (([k, a, b, m, d, g, y, A, D, E, h, n, r, s, u, w, x, i].drop 16).take (Tryz.prog.cellsOf 3)) = some b7 := F 7 _ rfl
  have U : DataW.trod _ Tryz.prog W _ _ _ G 49 (([k, a, b, m, d, g, y, A, D, E, h, n, r, s, u, w, x, i].drop 17).take (Tryz.prog.cellsOf 49)) = some b9 := F 8 _ rfl
  simp only [I4, uP, EZ, AW, JW, List.drop, List.take] at J L M O P Q R T U
  obtain ⟨cx, ab, _, c4, cu, a7, a4⟩ := DataW.trod_struct Tryz.underlying110 J
  obtain ⟨ba, bb, bc, rfl⟩ := ID a7
  have Y : DataW.trod _ Tryz.prog W _ _ _ ab 9 (([k, a, b].drop 0).take (Tryz.prog.cellsOf 9)) = some ba := a4 0 _ rfl
  have Z : DataW.trod _ Tryz.prog W _ _ _ ab 107 (([k, a, b].drop 1).take (Tryz.prog.cellsOf 107)) = some bb := a4 1 _ rfl
  have a0 : DataW.trod _ Tryz.prog W _ _ _ ab 108 (([k, a, b].drop 2).take (Tryz.prog.cellsOf 108)) = some bc := a4 2 _ rfl
  simp only [EU, ES, zb, List.drop, List.take] at Y Z a0
  obtain ⟨ak, bk, c8⟩ := An _ _ _ _ _ _ _ _ _ Y
  simp only [List.cons.injEq, and_true] at bk
  obtain rfl := bk
  obtain ⟨d8, al, bl, ae, c9⟩ := mP Am (by decide) FN Tryz.underlying107 Z
  simp only [List.cons.injEq, and_true] at bl
  obtain rfl := bl
  obtain ⟨ae, d1⟩ := Lf.Sl.all ae
  obtain ⟨d9, an, bn, af, ca⟩ := mP AF (by decide) FU Tryz.underlying108 a0
  simp only [List.cons.injEq, and_true] at bn
  obtain rfl := bn
  obtain ⟨af, d2⟩ := Lf.Sl.all af
  have c7 := congrArg (fun z => Rows.uptoBulk z.1) c4
  obtain ⟨cy, ad, _, c5, cv, a8, a5⟩ := DataW.trod_struct Tryz.underlying110 L
  obtain ⟨bd, bf, bh, rfl⟩ := ID a8
  have a1 : DataW.trod _ Tryz.prog W _ _ _ ad 9 (([m, d, g].drop 0).take (Tryz.prog.cellsOf 9)) = some bd := a5 0 _ rfl
  have a2 : DataW.trod _ Tryz.prog W _ _ _ ad 107 (([m, d, g].drop 1).take (Tryz.prog.cellsOf 107)) = some bf := a5 1 _ rfl
  have a3 : DataW.trod _ Tryz.prog W _ _ _ ad 108 (([m, d, g].drop 2).take (Tryz.prog.cellsOf 108)) = some bh := a5 2 _ rfl
  simp only [EU, ES, zb, List.drop, List.take] at a1 a2 a3
  obtain ⟨ao, bo, cc⟩ := An _ _ _ _ _ _ _ _ _ a1
  simp only [List.cons.injEq, and_true] at bo
  obtain rfl := bo
  obtain ⟨da, ap, bp, ag, cd⟩ := mP Am (by decide) FN Tryz.underlying107 a2
  simp only [List.cons.injEq, and_true] at bp
  obtain rfl := bp
  obtain ⟨ag, d3⟩ := Lf.Sl.all ag
  obtain ⟨db, aq, bq, ah, cf⟩ := mP AF (by decide) FU Tryz.underlying108 a3
  simp only [List.cons.injEq, and_true] at bq
  obtain rfl := bq
  obtain ⟨ah, d4⟩ := Lf.Sl.all ah
  have cb := congrArg (fun z => Rows.uptoBulk z.1) c5
  obtain ⟨ar, ai, cg⟩ := Cu _ _ _ _ _ _ _ _ _ M
  obtain ⟨de, bs, ai⟩ := ai.out
  simp only [List.cons.injEq, and_true] at bs
  obtain ⟨rfl, rfl, rfl, rfl, rfl⟩ := bs
  obtain ⟨au, bt, ch⟩ := xw _ _ _ _ _ _ _ _ _ O
  simp only [List.cons.injEq, and_true] at bt
  obtain rfl := bt
  obtain ⟨av, bu, cj⟩ := KB _ _ _ _ _ _ _ _ _ P
  simp only [Bb, List.cons.injEq, and_true] at bu
  obtain ⟨rfl, rfl⟩ := bu
  obtain ⟨aw, bw, ck⟩ := xw _ _ _ _ _ _ _ _ _ Q
  simp only [List.cons.injEq, and_true] at bw
  obtain rfl := bw
  obtain ⟨ay, bx, cm⟩ := xw _ _ _ _ _ _ _ _ _ R
  simp only [List.cons.injEq, and_true] at bx
  obtain rfl := bx
  obtain ⟨az, bz, cn⟩ := xw _ _ _ _ _ _ _ _ _ T
  simp only [List.cons.injEq, and_true] at bz
  obtain rfl := bz
  obtain ⟨df, aE, c0, aj, cp⟩ := mP EG (by decide) Kc Tryz.underlying49 U
  simp only [List.cons.injEq, and_true] at c0
  obtain rfl := c0
  obtain ⟨aj, d5⟩ := Lf.Sl.all aj
  have c6 := congrArg (fun z => Rows.uptoBulk z.1) c3
  simp only [List.map, Rows.uptoBulk, Rows.uptoBulkAll] at c8 c9 ca c7 cc cd cf cb cg ch cj ck cm cn cp c6
  have z0 : BS (⟨⟨ak, al, an⟩, ⟨ao, ap, aq⟩, ar, au, av, aw, ay, az, aE⟩ : fK) ≤ Rows.uptoBulk d0 := by simp only [BS]; omega
  have hB : Rows.uptoBulkAll ([d0] ++ []) ≤ 1048576 := of_decide_eq_true hk
  simp only [List.append_nil, Rows.uptoBulkAll] at hB
  have hm : nN (⟨⟨ak, al, an⟩, ⟨ao, ap, aq⟩, ar, au, av, aw, ay, az, aE⟩ : fK) = some true := BP JM _ (JY _ (by omega))
  have hg := ye (⟨⟨ak, al, an⟩, ⟨ao, ap, aq⟩, ar, au, av, aw, ay, az, aE⟩ : fK) a b d g h i true W ae af ag ah ai aj hm
  refine Calls.mono hg fun e W' ⟨he, hx⟩ => ?_
  subst he
  exact ⟨_, rfl, Gu Ic hr rfl cr hx (fun _ _ _ => I (shut_bool Tryz.underlying4 _) trodAll_mk0) rfl rfl (ok_one (by aa) rfl (okWide_bool_mk Tryz.underlying4 _))⟩
set_option maxRecDepth 100000 in
theorem KD (os : Os) (started : os.Started) (H : Type) (enc : TypeId × Value → H) (F : Stop.Interp) :
    ReturnsInHanded {} Tryz.checked os 11 .any ((Rows.OpenSpec.upto Rows.stuckTellsSpec).pre6 enc Tryz.prog Tryz.f11 Rows.stuckTellsUptoRow.domain false) (((Rows.OpenSpec.upto Rows.stuckTellsSpec).at F).post enc Tryz.prog Tryz.f11 false true false false) := by
  refine b (C := Tryz.checked) (s := Rows.OpenSpec.upto Rows.stuckTellsSpec) (k := Rows.uptoSmall) rfl own started (by a) Tryz.func11
    (OpenSpec.witness (enc := enc) (C := Tryz.checked) (s := Rows.OpenSpec.upto Rows.stuckTellsSpec) (k := Rows.uptoSmall) rfl false ⟨#[], #[.agg #[.string ⟨#[]⟩, .slice none 0 0, .slice none 0 0, .string ⟨#[]⟩, .slice none 0 0, .slice none 0 0, .int .i64 0, .int .i64 0, .string ⟨#[]⟩, .string ⟨#[]⟩, .slice none 0 0, .int .i64 0, .int .i64 0, .int .i64 0, .int .i64 0, .int .i64 0, .int .i64 0, .slice none 0 0]], []⟩ 8 (by a) (by a) (by a)
      (x := ([.agg [.agg [.lit (.string []), .nil, .nil], .agg [.lit (.string []), .nil, .nil], .agg [.lit (.int .i64 0), .lit (.int .i64 0), .agg [.lit (.string []), .lit (.string [])], .nil], .lit (.int .i64 0), .agg [.lit (.int .i64 0), .lit (.int .i64 0)], .lit (.int .i64 0), .lit (.int .i64 0), .lit (.int .i64 0), .nil]], [], [])) (by a) rfl (by a)) ?_
  intro W base args ds gs before d g _ h _
  exact Iz H enc W base args ds gs before d g h
theorem LN {a b : Bool} (ha : a = true) (d : b = true) : (a && b) = true := by rw [ha, d]; rfl
set_option maxHeartbeats 40000000 in
theorem JK : a Tryz.checked.prog 11 Tryz.f11 (Rows.OpenSpec.upto Rows.stuckTellsSpec).bare Rows.stuckTellsUptoRow = true := by
  unfold a
  repeat' b refine LN ?_ ?_
  g as_aux_lemma => d
theorem proved : Rows.StuckTellsUptoSaid :=
  OpenClaim.holds_of_cond 11 Tryz.f11 rfl rfl rfl rfl rfl rfl rfl ⟨rfl, rfl, rfl, rfl, rfl⟩ rfl rfl rfl rfl rfl (by a) Tryz.func11 JK
    (of_decide_eq_true (by a)) (by unfold Func.isWrapper; first | (rw [if_pos (by decide +kernel)]; a) | (rw [if_neg (by decide +kernel)]; exact ⟨rfl, rfl⟩))
    (fun os started H enc _ F => KD os started H enc F)
end Go.Proofs.YtmlncblocfcmiaaGreat
