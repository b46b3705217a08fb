/- a part of a proof of StuckTells -/
import Derived.Test.YtmlncblocfcmiaaGreatHct
import Derived.Test.YtmlncblocfcmiaaGreatRtVt
import Derived.Test.YtmlncblocfcmiaaGreatRows
import Derived.WalkKit
import Derived.ProofKit
import Derived.OpenShut
import Derived.JoinedCond
import Derived.Deep.Slices
import Derived.Carry
import Derived.ChangeArms
import Derived.ChangeSame
import Derived.Test.YtmlncblocfcmiaaGreatS1W3t
set_option linter.all false
namespace Go.Proofs.YtmlncblocfcmiaaGreat
open Go.RowKit
mutual
def je (v : aA → Bool) : Formula → Bool
  | ⟨o, k, r, ks⟩ => if o = 1 then v r else if o = 2 then decide (evN v ks = ks.length) else if o = 3 then decide (0 < evN v ks) else decide (k ≤ (evN v ks : Int))
def evN (v : aA → Bool) : List Formula → Nat
  | [] => 0
  | k :: ks => (if je v k then 1 else 0) + evN v ks
end
theorem oZ (v : aA → Bool) (f : Formula) : je v f = if f.Op = 1 then v f.aA else if f.Op = 2 then decide (evN v f.Kids = f.Kids.length) else if f.Op = 3 then decide (0 < evN v f.Kids) else decide (f.K ≤ (evN v f.Kids : Int)) := by cases f; rw [je]
theorem Bd (v : aA → Bool) : ∀ ks : List Formula, evN v ks ≤ ks.length
  | [] => by rw [evN]; exact Nat.le_refl _
  | k :: ks => by have := Bd v ks; rw [evN, List.length_cons]; split <;> omega
theorem CE (v : aA → Bool) : ∀ ks : List Formula, evN v ks = ks.length ↔ ∀ k ∈ ks, je v k = true
  | [] => by rw [evN]; simp
  | k :: ks => by
    have h1 := Bd v ks
    have a := CE v ks
    rw [evN, List.length_cons]
    simp only [List.forall_mem_cons, ← a]
    cases je v k <;> simp <;> omega
theorem Ce (v : aA → Bool) : ∀ ks : List Formula, 0 < evN v ks ↔ ∃ k ∈ ks, je v k = true
  | [] => by rw [evN]; simp
  | k :: ks => by
    have a := Ce v ks
    rw [evN]
    simp only [List.mem_cons, exists_eq_or_imp, ← a]
    cases je v k <;> simp <;> omega
theorem AT (v : aA → Bool) (ks : List Formula) : evN v ks = (ks.filter (je v)).length := by
  induction ks with
  | nil => rw [evN]; rfl
  | cons k ks ih => rw [evN, ih, List.filter_cons]; cases je v k <;> simp <;> omega
theorem Ik (v : aA → Bool) {a b : List Formula} (h : a.Perm b) : evN v a = evN v b := by
  rw [AT, AT]; exact (h.filter _).length_eq
theorem Km {v w : aA → Bool} (h : ∀ r, v r = true → w r = true) : ∀ f : Formula, je v f = true → je w f = true := by
  refine D4 fun f ih => ?_
  have key : evN v f.Kids ≤ evN w f.Kids := by
    have : ∀ ks : List Formula, (∀ k ∈ ks, je v k = true → je w k = true) → evN v ks ≤ evN w ks := by
      intro ks
      induction ks with
      | nil => intro _; rw [evN, evN]; exact Nat.le_refl _
      | cons k ks a =>
        intro hk
        have h1 := a (fun x g => hk x (by simp [g]))
        have b := hk k (by simp)
        rw [evN, evN]
        cases d : je v k
        · simp; omega
        · rw [b d]; simp; omega
    exact this _ ih
  have hle := Bd w f.Kids
  rw [oZ, oZ]
  split
  · exact h _
  · split
    · simp only [decide_eq_true_eq]; omega
    · split
      · simp only [decide_eq_true_eq]; omega
      · simp only [decide_eq_true_eq]; omega
theorem yI (v : aA → Bool) (f1 : aA → Option Bool) (rec : Formula → (aA → Option Bool) → Option Bool) (f : Formula) : ∀ (ks : List Formula) (x : Nat), (∀ k ∈ ks, rec k f1 = some (je v k)) → x + ks.length ≤ 100000000 →
    iJ rec f1 f ks (x : Int) = some (if f.Op = 2 then decide (x + evN v ks = f.Kids.length) else if f.Op = 3 then decide (0 < x + evN v ks) else decide (f.K ≤ ((x + evN v ks : Nat) : Int)))
  | [], x, _, _ => by
    rw [iJ, evN, Nat.add_zero]
    by_cases c2 : f.Op = 2
    · simp only [c2, beq_self_eq_true, if_true]
      congr 1
      rw [Bool.eq_iff_iff, beq_iff_eq, decide_eq_true_eq]; omega
    · have b : (f.Op == 2) = false := by simpa using c2
      simp only [b, Bool.false_eq_true, if_false, c2]
      by_cases a : f.Op = 3
      · simp only [a, beq_self_eq_true, if_true]
        congr 1
        rw [Bool.eq_iff_iff, decide_eq_true_eq, decide_eq_true_eq]; omega
      · have g : (f.Op == 3) = false := by simpa using a
        simp only [g, Bool.false_eq_true, if_false, a]
  | k :: ks, x, h, i => by
    rw [List.length_cons] at i
    rw [iJ, h k (by simp), Option.bind_some, evN]
    cases je v k
    · simp only [Bool.false_eq_true, if_false]
      rw [yI v f1 rec f ks x (fun z d => h z (by simp [d])) (by omega), Nat.zero_add]
    · simp only [if_true]
      have e : IntKind.i64.wrap ((x : Int) + 1) = ((x + 1 : Nat) : Int) := by rw [cP (by omega) (by omega)]; omega
      rw [e, yI v f1 rec f ks (x + 1) (fun z d => h z (by simp [d])) (by omega)]
      have b : x + 1 + evN v ks = x + (1 + evN v ks) := by omega
      rw [b]
theorem Hz (v : aA → Bool) (f1 : aA → Option Bool) (i : ∀ r, f1 r = some (v r)) : ∀ (n : Nat) (f : Formula), gq f ≤ n → Gd f → jj n f f1 = some (je v f) := by
  intro n
  induction n with
  | zero => intro f h; rw [fg] at h; omega
  | succ n ih =>
    intro f b d
    rw [fg] at b
    have g := gC f
    have j := jh f.Kids
    unfold Gd at d
    rw [jj]
    unfold oF
    rw [oZ]
    by_cases c1 : f.Op = 1
    · simp only [c1, beq_self_eq_true, if_true, i, Option.bind_some]
    · have a : (f.Op == 1) = false := by simpa using c1
      simp only [a, Bool.false_eq_true, if_false, c1]
      have := yI v f1 (jj n) f f.Kids 0 (fun k hk => ih k (by have := kh hk; omega) (by have := mO hk; unfold Gd; omega)) (by omega)
      simpa using this
def tw (v : aA → Bool) (f : Formula) : Bool := fR f && je v f
theorem JG (v : aA → Bool) (f1 : aA → Option Bool) (a : ∀ r, f1 r = some (v r)) (f : Formula) (h : Gd f) : qu f f1 = some (tw v f) := by
  unfold qu tw
  rw [xm f h, Option.bind_some]
  have := qp f
  cases fR f
  · rfl
  · unfold Gd at h
    simp only [if_true, Hz v f1 a bL f (by rw [eG]; omega) h, Option.bind_some, Bool.true_and]
theorem Bb (op : Int) (f : Formula) : dL op f = true ↔ f.Op = op ∧ f.Kids = [] := by
  unfold dL; simp
theorem CX (v : aA → Bool) {f : Formula} (h : dL 2 f = true) : je v f = true := by
  obtain ⟨h1, a⟩ := (Bb 2 f).1 h
  rw [oZ, h1, a, evN]; rfl
theorem Dm (v : aA → Bool) {f : Formula} (h : dL 3 f = true) : je v f = false := by
  obtain ⟨h1, a⟩ := (Bb 3 f).1 h
  rw [oZ, h1, a, evN]; rfl
def ns (v : aA → Bool) (ks : List Formula) : Bool := ks.all (je v)
def nQ (v : aA → Bool) (ks : List Formula) : Bool := ks.any (je v)
theorem Fq (v : aA → Bool) (k : Int) (r : aA) (ks : List Formula) : je v ⟨2, k, r, ks⟩ = ns v ks := by
  rw [oZ, Bool.eq_iff_iff]; simp [ns, CE]
theorem HH (v : aA → Bool) (k : Int) (r : aA) (ks : List Formula) : je v ⟨3, k, r, ks⟩ = nQ v ks := by
  rw [oZ, Bool.eq_iff_iff]; simp [nQ, Ce]
theorem EA (v : aA → Bool) : ∀ ks : List Formula, ns v (gv 2 ks) = ns v ks
  | [] => rfl
  | k :: ks => by
    have ih := EA v ks
    unfold ns at ih ⊢
    rw [gv, List.all_append, ih, List.all_cons]
    congr 1
    split
    · rename_i h
      obtain ⟨o, n, r, l⟩ := k
      simp only at h; subst h
      exact (Fq v n r l).symm
    · simp
theorem DX (v : aA → Bool) : ∀ ks : List Formula, nQ v (gv 3 ks) = nQ v ks
  | [] => rfl
  | k :: ks => by
    have ih := DX v ks
    unfold nQ at ih ⊢
    rw [gv, List.any_append, ih, List.any_cons]
    congr 1
    split
    · rename_i h
      obtain ⟨o, n, r, l⟩ := k
      simp only at h; subst h
      exact (HH v n r l).symm
    · simp
theorem G3 (l : List Formula) (x : Formula) : x ∈ dd jF (ow l) ↔ x ∈ l := by
  rw [E3 (fun _ _ => uE), (rF l).mem_iff]
theorem HK {v : aA → Bool} {a b : List Formula} (h : ∀ x, x ∈ a ↔ x ∈ b) : ns v a = ns v b := by
  unfold ns; rw [Bool.eq_iff_iff, List.all_eq_true, List.all_eq_true]
  exact ⟨fun q x d => q x ((h x).2 d), fun q x d => q x ((h x).1 d)⟩
theorem Hb {v : aA → Bool} {a b : List Formula} (h : ∀ x, x ∈ a ↔ x ∈ b) : nQ v a = nQ v b := by
  unfold nQ; rw [Bool.eq_iff_iff, List.any_eq_true, List.any_eq_true]
  exact ⟨fun ⟨x, d, q⟩ => ⟨x, (h x).1 d, q⟩, fun ⟨x, d, q⟩ => ⟨x, (h x).2 d, q⟩⟩
theorem Bt (v : aA → Bool) (ks : List Formula) : je v (iG 2 ks) = ns v ks := by
  rw [← EA]
  unfold iG
  split
  · rename_i h
    rw [show (5 - 2 : Int) = 3 from rfl, HH]
    obtain ⟨x, a, he⟩ := List.any_eq_true.1 h
    have : ns v (gv 2 ks) = false := by
      unfold ns; rw [List.all_eq_false]; exact ⟨x, a, by rw [Dm v he]; simp⟩
    rw [this]; rfl
  · rw [← HK (G3 (gv 2 ks))]
    generalize dd jF (ow (gv 2 ks)) = r
    split
    · simp [ns]
    · exact Fq v 0 jl r
theorem Be (v : aA → Bool) (ks : List Formula) : je v (iG 3 ks) = nQ v ks := by
  rw [← DX]
  unfold iG
  split
  · rename_i h
    rw [show (5 - 3 : Int) = 2 from rfl, Fq]
    obtain ⟨x, a, he⟩ := List.any_eq_true.1 h
    have : nQ v (gv 3 ks) = true := by
      unfold nQ; rw [List.any_eq_true]; exact ⟨x, a, CX v he⟩
    rw [this]; rfl
  · rw [← Hb (G3 (gv 3 ks))]
    generalize dd jF (ow (gv 3 ks)) = r
    split
    · simp [nQ]
    · exact HH v 0 jl r
theorem CH (v : aA → Bool) : ∀ ks : List Formula, evN v ks = (ks.filter (dL 2)).length + evN v (ks.filter fun x => !dL 2 x && !dL 3 x)
  | [] => rfl
  | k :: ks => by
    have ih := CH v ks
    rw [evN, List.filter_cons, List.filter_cons, ih]
    cases a : dL 2 k
    · cases b : dL 3 k
      · simp only [Bool.not_false, Bool.and_self, Bool.false_eq_true, if_false, if_true]
        rw [evN]; omega
      · rw [Dm v b]; simp
    · rw [CX v a]; simp; omega
theorem GK (v : aA → Bool) (k : Int) (ks : List Formula) : je v (mn k ks) = decide (k ≤ (evN v ks : Int)) := by
  have b := CH v ks
  unfold mn
  simp only
  generalize a : ks.filter (fun x => !dL 2 x && !dL 3 x) = l at *
  generalize (ks.filter (dL 2)).length = m at *
  have hle := Bd v l
  have ha := CE v l
  have hp := Ce v l
  split
  · rw [Fq]; simp [ns]; omega
  · split
    · rw [HH]; simp [nQ]; omega
    · split
      · rw [Bt, Bool.eq_iff_iff, decide_eq_true_eq]
        unfold ns
        rw [List.all_eq_true, ← ha]; omega
      · split
        · rw [Be, Bool.eq_iff_iff, decide_eq_true_eq]
          unfold nQ
          rw [List.any_eq_true, ← hp]; omega
        · rw [oZ]
          simp only [Ik v (rF l)]
          have : ¬ ((4 : Int) = 1) := by omega
          have : ¬ ((4 : Int) = 2) := by omega
          have : ¬ ((4 : Int) = 3) := by omega
          simp only [*, if_false]
          rw [Bool.eq_iff_iff, decide_eq_true_eq, decide_eq_true_eq]; omega
theorem I8 (v : aA → Bool) : ∀ f : Formula, mI f = true → je v (iQ f) = je v f := by
  refine D4 fun f ih hw => ?_
  obtain ⟨h1, g, i⟩ := qQ hw
  rw [yH, List.all_eq_true] at g
  have key : ∀ ks : List Formula, (∀ k ∈ ks, je v (iQ k) = je v k) → evN v (shapeL ks) = evN v ks ∧ ns v (shapeL ks) = ns v ks ∧ nQ v (shapeL ks) = nQ v ks := by
    intro ks
    induction ks with
    | nil => intro _; rw [shapeL]; exact ⟨rfl, rfl, rfl⟩
    | cons k ks d =>
      intro hk
      obtain ⟨a, b, c⟩ := d (fun x j => hk x (by simp [j]))
      have h := hk k (by simp)
      unfold ns nQ at *
      rw [shapeL, evN, evN, a, h, List.all_cons, List.all_cons, List.any_cons, List.any_cons, b, c, h]
      exact ⟨rfl, rfl, rfl⟩
  obtain ⟨a, b, c⟩ := key f.Kids (fun k hk => ih k hk (g k hk))
  obtain ⟨o, n, r, l⟩ := f
  simp only at *
  rw [rD]
  simp only
  rcases i with h | h | h
  · simp only [h.1, if_true]
  · rcases h.1 with h | h
    · subst h
      rw [Fq]
      exact (Bt v _).trans b
    · subst h
      rw [HH]
      exact (Be v _).trans c
  · obtain ⟨h, _⟩ := h
    subst h
    rw [oZ v ⟨4, n, r, l⟩]
    exact (GK v n _).trans (by rw [a]; rfl)
theorem Hw {f g : Formula} (h : pF f = (g, 0)) : fR f = true ∧ fR g = true ∧ ∀ v, je v g = je v f := by
  unfold pF at h
  cases a : fR f
  · rw [a] at h; simp at h
  · rw [a] at h
    simp only [if_true] at h
    cases b : fR (iQ f)
    · rw [b] at h; simp at h
    · rw [b] at h
      simp only [if_true, Prod.mk.injEq] at h
      obtain ⟨rfl, _⟩ := h
      exact ⟨rfl, b, fun v => I8 v f (sU a).2.2⟩
end Go.Proofs.YtmlncblocfcmiaaGreat
namespace Go.Proofs.YtmlncblocfcmiaaGreat
open Go.RowKit
structure PB (p : cR) : Prop where
  BI : p.aT.length ≤ 2000000
  GN : p.bP.length ≤ 2000000
  rel : ∀ x ∈ p.aT, cD x.aI ≤ 10000000
  Gk : ∀ a ∈ p.bP, cD a.aI ≤ 10000000
  Mx : ∀ a ∈ p.bP, a.eS.length ≤ 2000000
theorem xl (f : cI → Option Bool) : ∀ (l : List cI) (i : Nat), fN f l i = tk f l i
  | [], i => by rw [fN]; rfl
  | x :: l, i => by
    rw [fN, tk]
    cases f x with
    | none => rfl
    | some b =>
      simp only [Option.bind_some]
      rw [xl f l (i + 1)]
theorem Es (f : gL → Option Bool) : ∀ (l : List gL) (i : Nat), gw f l i = tk f l i
  | [], i => by rw [gw]; rfl
  | x :: l, i => by
    rw [gw, tk]
    cases f x with
    | none => rfl
    | some b =>
      simp only [Option.bind_some]
      rw [Es f l (i + 1)]
def tq (p : cR) (c : aB) : Option cI := p.aT.find? fun x => bT x.Signed.aB c
theorem JZ (p : cR) (c : aB) : ∃ z, sF p c = some (match tq p c with | some x => (x, true) | none => (z, false)) := by
  unfold sF fp tq
  rw [xl]
  rcases tg (fun x => pG x c) (fun x => bT x.Signed.aB c) p.aT 0 (fun x _ => rfl) with ⟨e, h1⟩ | ⟨A, x, B, hp, h1, b, e⟩
  · rw [e, Option.bind_some, List.find?_eq_none.2 (fun x a => by rw [h1 x a]; simp)]
    exact ⟨_, rfl⟩
  · rw [e, Option.bind_some, hp, List.find?_append, List.find?_eq_none.2 (fun x a => by rw [h1 x a]; simp), List.find?_cons, b]
    have : ¬ (((0 + A.length : Nat) : Int) < 0) := by omega
    simp only [this, decide_false, Bool.false_eq_true, if_false]
    rw [fk A x B _ (by omega)]
    exact ⟨x, rfl⟩
def KI : gL := ⟨⟨zS, zS⟩, ⟨0, 0, ⟨zS, zS⟩, []⟩, []⟩
theorem EN (f : gL → Option Bool) : ∀ (n : Nat) (l : List gL) (i j : Int), gk f n l i j = wT f KI n l i j
  | 0, _, _, _ => rfl
  | n + 1, l, i, j => by
    rw [gk, wT]
    simp only [EN f n]
    rfl
def sk (p : cR) (c : aB) : List gL := p.bP.filter fun a => eQ bT a.eS c
theorem I1 (p : cR) (hp : PB p) (c : aB) : rn p c = some (sk p c) := by
  have := hp.GN
  unfold rn nM sk
  rw [eX (by simp; omega) (by simp; omega)]
  simp only [Option.bind_some, List.nil_append, gi]
  have : kN p.bP (fun x => lj x c) = Cg (fun x => lj x c) KI p.bP := by
    unfold kN Cg nS
    simp only [Es, EN]
  rw [this, wX _ (fun a => !eQ bT a.eS c) KI _ (by omega) (fun a _ => by unfold lj kk; rw [gi, AB]; rfl)]
  simp only [Bool.not_not]
noncomputable def iB : Formula × Int → List Formula → Formula × Int
  | t, [] => t
  | t, g :: l => if t.2 = 0 then iB (pF ⟨2, 0, jl, [t.1, g]⟩) l else t
theorem F6 : ∀ (l : List Formula) (e o k : Int) (r : aA) (ks : List Formula), (∀ g ∈ l, cD g ≤ 10000000) → cD ⟨o, k, r, ks⟩ ≤ 64 →
    mX l e o k r ks = some ((iB (⟨o, k, r, ks⟩, e) l).2, (iB (⟨o, k, r, ks⟩, e) l).1.Op, (iB (⟨o, k, r, ks⟩, e) l).1.K, (iB (⟨o, k, r, ks⟩, e) l).1.aA, (iB (⟨o, k, r, ks⟩, e) l).1.Kids)
  | [], e, o, k, r, ks, _, _ => by rw [mX, iB]
  | g :: l, e, o, k, r, ks, h, n => by
    rw [mX, iB]
    by_cases c : e = 0
    · have a : (e != 0) = false := by simp [c]
      simp only [a, Bool.false_eq_true, if_false, c, if_true]
      rw [JL _ g (by omega) (h g (by simp)), Option.bind_some]
      have d := rG (f := ⟨2, 0, jl, [⟨o, k, r, ks⟩, g]⟩)
      generalize pF ⟨2, 0, jl, [⟨o, k, r, ks⟩, g]⟩ = q at *
      obtain ⟨⟨j, k', m, b⟩, e'⟩ := q
      exact F6 l e' j k' m b (fun z i => h z (by simp [i])) d
    · have a : (e != 0) = true := by simp [c]
      simp only [a, if_true, c, if_false]
noncomputable def ul (g : Formula) (l : List Formula) : Formula × Int := if (iB (pF g) l).2 = 0 then iB (pF g) l else (zW, (iB (pF g) l).2)
theorem JB (g : Formula) (l : List Formula) (m : cD g ≤ 10000000) (h : ∀ x ∈ l, cD x ≤ 10000000) : pt (g :: l) = some (ul g l) := by
  unfold pt ul
  have b : dU (g :: l) 0 = some g := fk [] g l 0 rfl
  have a : lV (decide (0 ≤ 1) && decide ((1 : Int) ≤ ((g :: l).length : Int))) = some () := by
    rw [List.length_cons]
    have : (1 : Int) ≤ ((l.length + 1 : Nat) : Int) := by omega
    simp [lV]; omega
  have i := rG (f := g)
  rw [b, Option.bind_some, FR g (by unfold Gd; omega), Option.bind_some, a, Option.bind_some]
  generalize pF g = q at *
  obtain ⟨⟨o, k, r, ks⟩, e⟩ := q
  have d : (g :: l).drop (Int.toNat 1) = l := rfl
  rw [d, F6 l e o k r ks h i, Option.bind_some]
  generalize iB (⟨o, k, r, ks⟩, e) l = t
  obtain ⟨⟨n, k', p, j⟩, e'⟩ := t
  by_cases c : e' = 0
  · subst c; rfl
  · have a : (e' != 0) = true := by simp [c]
    simp only [a, if_true, c, if_false]; rfl
noncomputable def iN (p : cR) (c : aB) : Formula × Int := match tq p c with | none => (zW, 42) | some x => ul x.aI ((sk p c).map (·.aI))
theorem HF : ∀ (l : List gL) (acc : List Formula), acc.length + l.length ≤ 3000000 → nA l acc = pt (acc ++ l.map (·.aI))
  | [], acc, _ => by
    rw [nA, List.map_nil, List.append_nil]
    cases pt acc <;> rfl
  | a :: l, acc, h => by
    rw [List.length_cons] at h
    rw [nA, eX (by simp; omega) (by simp; omega), Option.bind_some, HF l _ (by simp; omega)]
    simp
theorem Ja {p : cR} {c : aB} {x : cI} (h : tq p c = some x) : x ∈ p.aT ∧ x.Signed.aB = c := by
  unfold tq at h
  have h1 := List.mem_of_find?_eq_some h
  have a := List.find?_some h
  exact ⟨h1, eV.1 a⟩
theorem Lb (p : cR) (hp : PB p) (c : aB) : uw p c = some (iN p c) := by
  unfold uw iN
  obtain ⟨z, e⟩ := JZ p c
  rw [e, Option.bind_some]
  cases h : tq p c with
  | none => rfl
  | some x =>
    simp only [Bool.not_true, Bool.false_eq_true, if_false]
    have d := Ja h
    have i : (sk p c).length ≤ p.bP.length := List.length_filter_le _ _
    have := hp.GN
    rw [I1 p hp c, Option.bind_some, HF _ _ (by simp; omega)]
    exact JB x.aI _ (hp.rel x d.1) (fun g b => by
      obtain ⟨a, ha, rfl⟩ := List.mem_map.1 b
      exact hp.Gk a (List.mem_filter.1 ha).1)
theorem CK (p : cR) (c : aB) : cD (iN p c).1 ≤ 64 := by
  have a : cD zW ≤ 64 := by rw [zW, cD, nodesL]; omega
  have b : ∀ (l : List Formula) (t : Formula × Int), cD t.1 ≤ 64 → cD (iB t l).1 ≤ 64 := by
    intro l
    induction l with
    | nil => intro t h; exact h
    | cons g l ih =>
      intro t h
      rw [iB]
      split
      · exact ih _ rG
      · exact h
  unfold iN
  split
  · exact a
  · unfold ul
    split
    · exact b _ _ rG
    · exact a
theorem EM : ∀ (l : List Formula) (f : Formula) (e : Int), (iB (f, e) l).2 = 0 → e = 0 ∧ (fR f = true → fR (iB (f, e) l).1 = true ∧ ∀ v, je v (iB (f, e) l).1 = (je v f && l.all (je v)))
  | [], f, e, h => by rw [iB] at *; exact ⟨h, fun j => ⟨j, fun v => by simp⟩⟩
  | g :: l, f, e, h => by
    rw [iB] at *
    by_cases c : e = 0
    · simp only [c, if_true] at h ⊢
      cases a : pF ⟨2, 0, jl, [f, g]⟩ with
      | mk q e' =>
        rw [a] at h
        obtain ⟨h1, i⟩ := EM l q e' h
        subst h1
        obtain ⟨k, a2, a3⟩ := Hw a
        obtain ⟨b, d⟩ := i a2
        refine ⟨trivial, fun _ => ⟨b, fun v => ?_⟩⟩
        rw [d v, a3 v, Fq]
        simp [ns, Bool.and_assoc]
    · simp only [c, if_false] at h
theorem HV {p : cR} {c : aB} (h : (iN p c).2 = 0) : fR (iN p c).1 = true ∧ ∃ x, tq p c = some x ∧ ∀ v, je v (iN p c).1 = (je v x.aI && (sk p c).all fun a => je v a.aI) := by
  unfold iN at *
  cases g : tq p c with
  | none => rw [g] at h; simp at h
  | some x =>
    rw [g] at h
    simp only at h ⊢
    unfold ul at *
    by_cases b : (iB (pF x.aI) ((sk p c).map (·.aI))).2 = 0
    · simp only [b, if_true] at h ⊢
      cases d : pF x.aI with
      | mk q e =>
        rw [d] at b
        obtain ⟨h1, k⟩ := EM _ q e b
        subst h1
        obtain ⟨l, a2, a3⟩ := Hw d
        obtain ⟨i, j⟩ := k a2
        refine ⟨i, x, rfl, fun v => ?_⟩
        rw [j v, a3 v, List.all_map]
        rfl
    · simp only [b, if_false] at h
def vF (F : List aV) (peer : ByteArray) (r : aA) : Bool := eQ uH F ⟨r, peer⟩
theorem JE {l : List aB} {F : List aV} (h : I9 l F) (peer : ByteArray) : ∃ m, ov l peer = some m ∧ ∀ r, ji r m.1 m.2.1 m.2.2.1 m.2.2.2.1 m.2.2.2.2.1 m.2.2.2.2.2.1 m.2.2.2.2.2.2 = some (vF F peer r) := by
  obtain ⟨m, e, _, a⟩ := h.Np
  unfold ov
  rw [e, Option.bind_some]
  refine ⟨_, rfl, fun r => ?_⟩
  unfold ji
  rw [gi]
  exact a r peer
noncomputable def tJ (p : cR) (v : aA → Bool) (x : cI) : Bool := decide ((iN p x.Signed.aB).2 = 0) && tw v (iN p x.Signed.aB).1
theorem wS (p : cR) (hp : PB p) (v : aA → Bool) (m) (a : ∀ r, ji r m.1 m.2.1 m.2.2.1 m.2.2.2.1 m.2.2.2.2.1 m.2.2.2.2.2.1 m.2.2.2.2.2.2 = some (v r)) : ∀ (l : List cI) (acc : List aB), acc.length + l.length ≤ 1000000000 →
    ky p m l acc = nR (acc ++ (l.filter (tJ p v)).map (·.Signed.aB))
  | [], acc, _ => by
    rw [ky, List.filter_nil, List.map_nil, List.append_nil, gi]
  | x :: l, acc, h => by
    rw [List.length_cons] at h
    have b := CK p x.Signed.aB
    rw [ky, Lb p hp, Option.bind_some, JG v _ a _ (by unfold Gd; omega), List.filter_cons]
    unfold tJ
    by_cases c : (iN p x.Signed.aB).2 = 0
    · simp only [c, beq_self_eq_true, if_true, decide_true, Bool.true_and, Option.bind_some]
      cases d : tw v (iN p x.Signed.aB).1
      · simp only [Bool.false_eq_true, if_false]
        exact wS p hp v m a l acc (by omega)
      · simp only [if_true]
        rw [eX (by simp; omega) (by simp; omega), Option.bind_some, wS p hp v m a l _ (by simp; omega)]
        simp only [List.map_cons, List.append_assoc, List.cons_append, List.nil_append]
        rfl
    · have e : ((iN p x.Signed.aB).2 == 0) = false := by simpa using c
      simp only [e, Bool.false_eq_true, if_false, c, decide_false, Bool.false_and, Option.bind_some]
      exact wS p hp v m a l acc (by omega)
theorem JX (p : cR) (hp : PB p) {l : List aB} {F : List aV} (h : I9 l F) (peer : ByteArray) : ∃ s, jv p l peer = some s ∧ EQ ((p.aT.filter (tJ p (vF F peer))).map (·.Signed.aB)) s := by
  obtain ⟨m, e, a⟩ := JE h peer
  have := hp.BI
  unfold jv
  rw [e, Option.bind_some, wS p hp _ m a p.aT [] (by simp; omega), List.nil_append]
  have h1 : (p.aT.filter (tJ p (vF F peer))).length ≤ p.aT.length := List.length_filter_le _ _
  exact Gg _ (by simp; omega)
end Go.Proofs.YtmlncblocfcmiaaGreat
namespace Go.Proofs.YtmlncblocfcmiaaGreat
open Go.RowKit
structure PG (p : cR) : Prop extends PB p where
  Nj : ∀ x ∈ p.aT, rh x.Signed.aB ≤ 1000000000
  Nn : ∀ a ∈ p.bP, ∀ c ∈ a.eS, rh c ≤ 1000000000
end Go.Proofs.YtmlncblocfcmiaaGreat
namespace Go.Proofs.YtmlncblocfcmiaaGreat
open Go.RowKit
def gX : aA := ⟨⟨#[120]⟩, ⟨#[121]⟩⟩
def gc : aB := ⟨1, gX, ⟨#[109, 101]⟩, ⟨zS, zS⟩, ⟨zS, zS⟩, zS⟩
theorem LC {f : Formula} (h : f.Op = 1) : iQ f = f := by rw [rD, if_pos h]
end Go.Proofs.YtmlncblocfcmiaaGreat
namespace Go.Proofs.YtmlncblocfcmiaaGreat
open Go.RowKit
noncomputable def vD (l : List aB) (peer : ByteArray) (r : aA) : Bool := @decide (iu (l.filter dS) ⟨r, peer⟩) (Classical.propDecidable _)
theorem BP (l : List aB) (peer : ByteArray) (r : aA) : vD l peer r = true ↔ iu (l.filter dS) ⟨r, peer⟩ := by unfold vD; simp
theorem J9 {l m : List aB} (h : ∀ c ∈ l, c ∈ m) (peer : ByteArray) (r : aA) (b : vD l peer r = true) : vD m peer r = true := by
  rw [BP] at *
  exact b.mono (fun c a => by rw [List.mem_filter] at *; exact ⟨h c a.1, a.2⟩)
theorem LZ (l : List aB) (h : l.length ≤ 1000000) (peer : ByteArray) : ∃ m, ov l peer = some m ∧ ∀ r, ji r m.1 m.2.1 m.2.2.1 m.2.2.2.1 m.2.2.2.2.1 m.2.2.2.2.2.1 m.2.2.2.2.2.2 = some (vD l peer r) := by
  obtain ⟨C, T, us, ws, n, e, m, d, _⟩ := GG l h
  unfold ov
  rw [e, Option.bind_some]
  refine ⟨_, rfl, fun r => ?_⟩
  unfold ji
  rw [gi]
  obtain ⟨b, a, g⟩ := HA m C us ws [] n r peer
  rw [a]
  congr 1
  rw [Bool.eq_iff_iff, g, BP]
  exact iu.congr (fun c => by rw [d, List.mem_filter]) _
noncomputable def EH (p : cR) (v : aA → Bool) (c : aB) : Bool := decide ((iN p c).2 = 0) && tw v (iN p c).1
theorem I4 {p : cR} {v w : aA → Bool} (h : ∀ r, v r = true → w r = true) (c : aB) (a : EH p v c = true) : EH p w c = true := by
  unfold EH tw at *
  simp only [Bool.and_eq_true, decide_eq_true_eq] at *
  exact ⟨a.1, a.2.1, Km h _ a.2.2⟩
def gu (s : List aB) : Prop := s.Pairwise (fun a b => uW a b = true) ∧ ∀ c ∈ s, dS c = true
theorem gu.nodup {s : List aB} (h : gu s) : s.Nodup := nW vB h.2 h.1
theorem gu.le {s t : List aB} (h : gu s) (a : ∀ c ∈ s, c ∈ t) : s.length ≤ t.length := eH h.nodup a
theorem gu.ext {s t : List aB} (h : gu s) (k : gu t) (b : ∀ c, c ∈ s ↔ c ∈ t) : s = t :=
  oI.unique vB (l := t) ⟨h.1, fun x => ⟨fun a => ⟨(b x).1 a, h.2 x a⟩, fun a => (b x).2 a.1⟩⟩ ⟨k.1, fun x => ⟨fun a => ⟨a, k.2 x a⟩, fun a => a.1⟩⟩
theorem gu.eq {s t : List aB} (h : gu s) (k : gu t) (b : ∀ c ∈ s, c ∈ t) (i : t.length ≤ s.length) : s = t := by
  refine h.ext k fun c => ⟨b c, fun d => ?_⟩
  refine Classical.byContradiction fun g => ?_
  have := eH (l := c :: s) (m := t) (List.nodup_cons.2 ⟨g, h.nodup⟩) (fun x a => by
    rcases List.mem_cons.1 a with rfl | a
    · exact d
    · exact b x a)
  simp at this; omega
theorem gu.nil : gu [] := ⟨by simp, by simp⟩
theorem gu.filter {s : List aB} (h : gu s) (p : aB → Bool) : gu (s.filter p) := ⟨h.1.filter _, fun c a => h.2 c (List.mem_filter.1 a).1⟩
def tN (p : cR) (c : aB) : Prop := ∃ x ∈ p.aT, x.Signed.aB = c
def gy (p : cR) (l : List aB) (peer : ByteArray) (c : aB) : Prop := tN p c ∧ dS c = true ∧ EH p (vD l peer) c = true
theorem mP {p : cR} {l m : List aB} (h : ∀ c ∈ l, c ∈ m) {peer : ByteArray} {c : aB} (a : gy p l peer c) : gy p m peer c := ⟨a.1, a.2.1, I4 (J9 h peer) c a.2.2⟩
theorem lh {p : cR} {s : List aB} (h : gu s) (b : ∀ c ∈ s, tN p c) : s.length ≤ p.aT.length := by
  have := h.le (t := p.aT.map (·.Signed.aB)) (fun c a => by obtain ⟨x, d, e⟩ := b c a; exact List.mem_map.2 ⟨x, d, e⟩)
  simpa using this
theorem vP (p : cR) (hp : PB p) (l : List aB) (n : l.length ≤ 1000000) (peer : ByteArray) : ∃ s, jv p l peer = some s ∧ gu s ∧ (∀ c, c ∈ s ↔ gy p l peer c) ∧ s.length ≤ p.aT.length := by
  obtain ⟨m, e, q⟩ := LZ l n peer
  have := hp.BI
  unfold jv
  rw [e, Option.bind_some, wS p hp _ m q p.aT [] (by simp; omega), List.nil_append]
  have h1 : (p.aT.filter (tJ p (vD l peer))).length ≤ p.aT.length := List.length_filter_le _ _
  obtain ⟨s, j, a⟩ := Gg ((p.aT.filter (tJ p (vD l peer))).map (·.Signed.aB)) (by simp; omega)
  have i : gu s := ⟨a.1, fun c d => ((a.2 c).1 d).2⟩
  have hm : ∀ c, c ∈ s ↔ gy p l peer c := fun c => by
    rw [a.2, List.mem_map]
    constructor
    · rintro ⟨⟨x, h, rfl⟩, g⟩
      obtain ⟨k, b⟩ := List.mem_filter.1 h
      exact ⟨⟨x, k, rfl⟩, g, b⟩
    · rintro ⟨⟨x, h, rfl⟩, g, b⟩
      exact ⟨⟨x, List.mem_filter.2 ⟨h, b⟩, rfl⟩, g⟩
  exact ⟨s, j, i, hm, lh i (fun c d => ((hm c).1 d).1)⟩
structure EX (a b : cR) (x y : List aB) : Prop where
  sx : gu x
  sy : gu y
  fx : ∀ c, c ∈ x ↔ gy a y b.Name c
  fy : ∀ c, c ∈ y ↔ gy b x a.Name c
  least : ∀ X Y : List aB, (∀ c, gy a Y b.Name c → c ∈ X) → (∀ c, gy b X a.Name c → c ∈ Y) → (∀ c ∈ x, c ∈ X) ∧ (∀ c ∈ y, c ∈ Y)
theorem EX.lx {a b : cR} {x y : List aB} (h : EX a b x y) : x.length ≤ a.aT.length := lh h.sx (fun c d => ((h.fx c).1 d).1)
theorem EX.ly {a b : cR} {x y : List aB} (h : EX a b x y) : y.length ≤ b.aT.length := lh h.sy (fun c d => ((h.fy c).1 d).1)
theorem Dl (a b : cR) (ha : PB a) (u : PB b) (la : a.aT.length ≤ 600000) (lb : b.aT.length ≤ 600000) : ∀ (n : Nat) (x y : List aB) (i : Int), gu x → gu y → (∀ c ∈ x, gy a y b.Name c) → (∀ c ∈ y, gy b x a.Name c) →
    (∀ X Y : List aB, (∀ c, gy a Y b.Name c → c ∈ X) → (∀ c, gy b X a.Name c → c ∈ Y) → (∀ c ∈ x, c ∈ X) ∧ (∀ c ∈ y, c ∈ Y)) → a.aT.length + b.aT.length < n + x.length + y.length →
    ∃ v w j, iX a b n x y i = some (v, w, j) ∧ EX a b v w
  | 0, x, y, i, sx, sy, g, k, hm, E => by
    have h1 := lh sx (fun c d => (g c d).1)
    have D := lh sy (fun c d => (k c d).1)
    omega
  | n + 1, x, y, i, sx, sy, g, k, hm, E => by
    have h1 := lh sx (fun c d => (g c d).1)
    have D := lh sy (fun c d => (k c d).1)
    obtain ⟨p, z, sp, mp, J⟩ := vP a ha y (by omega) b.Name
    obtain ⟨q, A, sq, l, L⟩ := vP b u x (by omega) a.Name
    have m : ∀ c ∈ x, c ∈ p := fun c d => (mp c).2 (g c d)
    have r : ∀ c ∈ y, c ∈ q := fun c d => (l c).2 (k c d)
    have G := sx.le m
    have I := sy.le r
    rw [iX, z, Option.bind_some, A, Option.bind_some]
    by_cases c1 : p.length = x.length ∧ q.length = y.length
    · have e : ((if (((p.length : Int)) == ((x.length : Int))) then some ((((q.length : Int)) == ((y.length : Int)))) else some false) : Option Bool) = some true := by
        rw [c1.1, c1.2]; simp
      rw [e]
      simp only [Option.bind_some, if_true]
      obtain rfl := sx.eq sp m (by omega)
      obtain rfl := sy.eq sq r (by omega)
      exact ⟨_, _, _, rfl, sx, sy, mp, l, hm⟩
    · have e : ((if (((p.length : Int)) == ((x.length : Int))) then some ((((q.length : Int)) == ((y.length : Int)))) else some false) : Option Bool) = some false := by
        by_cases c2 : p.length = x.length
        · have F : ¬ q.length = y.length := fun h => c1 ⟨c2, h⟩
          simp [c2]; omega
        · have : ¬ ((p.length : Int) = (x.length : Int)) := by omega
          simp [this]
      rw [e]
      simp only [Option.bind_some, Bool.false_eq_true, if_false]
      refine Dl a b ha u la lb n p q _ sp sq (fun c d => mP r ((mp c).1 d)) (fun c d => mP m ((l c).1 d)) (fun X Y s t => ?_) (by omega)
      obtain ⟨g1, g2⟩ := hm X Y s t
      exact ⟨fun c d => s c (mP g2 ((mp c).1 d)), fun c d => t c (mP g1 ((l c).1 d))⟩
theorem Ht (a b : cR) (ha : PB a) (d : PB b) (la : a.aT.length ≤ 600000) (lb : b.aT.length ≤ 600000) : ∃ x y j, qX a b = some (x, y, j) ∧ EX a b x y :=
  Dl a b ha d la lb bL [] [] 0 gu.nil gu.nil (by simp) (by simp) (fun _ _ _ _ => by simp) (by rw [eG]; simp; omega)
theorem xG (a b : List aB) (ha : a.length ≤ 1000000) : qe a b = some (a.filter (eQ bT b)) := by
  unfold qe
  rw [EJ (by omega)]
  simp only [Option.bind_some, gi]
  rw [AF, wX _ (fun c => !eQ bT b c) zC a (by omega) (fun c _ => by unfold pD kk; rw [gi, AB]; rfl)]
  simp only [Bool.not_not]
theorem CQ (a b : List aB) (ha : a.length ≤ 1000000) : pg a b = some (a.filter fun c => !eQ bT b c) := by
  unfold pg
  rw [EJ (by omega)]
  simp only [Option.bind_some, gi]
  rw [AF, wX _ (fun c => eQ bT b c) zC a (by omega) (fun c _ => by unfold oH kk; rw [gi, gi, AB])]
theorem zq (p : cR) (hp : p.aT.length ≤ 600000) : ∃ s, nU p = some s ∧ gu s ∧ ∀ c, c ∈ s ↔ tN p c ∧ dS c = true := by
  have h1 : ∀ (l : List cI) (acc : List aB), acc.length + l.length ≤ 1000000000 → iW l acc = nR (acc ++ l.map (·.Signed.aB)) := by
    intro l
    induction l with
    | nil => intro acc _; rw [iW, List.map_nil, List.append_nil, gi]
    | cons x l ih =>
      intro acc h
      rw [List.length_cons] at h
      rw [iW, eX (by simp; omega) (by simp; omega), Option.bind_some, ih _ (by simp; omega)]
      simp
  unfold nU
  rw [h1 _ _ (by simp; omega), List.nil_append]
  obtain ⟨s, e, h⟩ := Gg (p.aT.map (·.Signed.aB)) (by simp; omega)
  refine ⟨s, e, ⟨h.1, fun c a => ((h.2 c).1 a).2⟩, fun c => ?_⟩
  rw [h.2, List.mem_map]
  exact Iff.rfl
structure Ap (p : fL) (a b : List aB) : Prop where
  sa : gu a
  sb : gu b
  fa : ∀ c ∈ a, gy p.aC b p.Client.Name c
  fb : ∀ c ∈ b, gy p.Client a p.aC.Name c
  tf : ∀ X Y : List aB, gu X → gu Y → (∀ c ∈ X, gy p.aC Y p.Client.Name c) → (∀ c ∈ Y, gy p.Client X p.aC.Name c) → (∀ c ∈ X, c ∈ a) ∧ (∀ c ∈ Y, c ∈ b)
theorem Bl {α : Type} (p : α → Bool) (l : List α) (h : (l.filter p).length = l.length) : ∀ x ∈ l, p x = true := by
  have := List.filter_sublist (l := l) (p := p)
  have e := this.eq_of_length h
  intro x a
  rw [← e] at a
  exact (List.mem_filter.1 a).2
theorem DQ (p : fL) (ha : PB p.aC) (k : PB p.Client) (la : p.aC.aT.length ≤ 600000) (lb : p.Client.aT.length ≤ 600000) : ∀ (n : Nat) (x y : List aB), gu x → gu y → x.length ≤ 600000 → y.length ≤ 600000 →
    (∀ X Y : List aB, gu X → gu Y → (∀ c ∈ X, gy p.aC Y p.Client.Name c) → (∀ c ∈ Y, gy p.Client X p.aC.Name c) → (∀ c ∈ X, c ∈ x) ∧ (∀ c ∈ Y, c ∈ y)) → x.length + y.length < n →
    ∃ a b, gT p n x y = some (a, b) ∧ Ap p a b
  | 0, x, y, sx, sy, lx, ly, hm, t => by omega
  | n + 1, x, y, sx, sy, lx, ly, hm, t => by
    obtain ⟨f, q, E, l, A⟩ := vP p.aC ha y (by omega) p.Client.Name
    obtain ⟨g, r, sg, m, D⟩ := vP p.Client k x (by omega) p.aC.Name
    have w := List.length_filter_le (eQ bT f) x
    have z := List.length_filter_le (eQ bT g) y
    rw [gT, q, Option.bind_some, xG x f (by omega), Option.bind_some, r, Option.bind_some, xG y g (by omega), Option.bind_some]
    by_cases c1 : (x.filter (eQ bT f)).length = x.length ∧ (y.filter (eQ bT g)).length = y.length
    · have e : ((if ((((x.filter (eQ bT f)).length : Int)) == ((x.length : Int))) then some (((((y.filter (eQ bT g)).length : Int)) == ((y.length : Int)))) else some false) : Option Bool) = some true := by
        rw [c1.1, c1.2]; simp
      rw [e]
      simp only [Option.bind_some, if_true]
      have h1 := Bl _ _ c1.1
      have s := Bl _ _ c1.2
      exact ⟨x, y, rfl, sx, sy, fun c d => (l c).1 ((mu eV f c).1 (h1 c d)), fun c d => (m c).1 ((mu eV g c).1 (s c d)), hm⟩
    · have e : ((if ((((x.filter (eQ bT f)).length : Int)) == ((x.length : Int))) then some (((((y.filter (eQ bT g)).length : Int)) == ((y.length : Int)))) else some false) : Option Bool) = some false := by
        by_cases c2 : (x.filter (eQ bT f)).length = x.length
        · have v : ¬ (y.filter (eQ bT g)).length = y.length := fun h => c1 ⟨c2, h⟩
          rw [c2]
          simp only [beq_self_eq_true, if_true]
          congr 1
          rw [beq_eq_false_iff_ne]; omega
        · have : (((x.filter (eQ bT f)).length : Int) == (x.length : Int)) = false := by rw [beq_eq_false_iff_ne]; omega
          simp only [this, Bool.false_eq_true, if_false]
      rw [e]
      simp only [Option.bind_some, Bool.false_eq_true, if_false]
      refine DQ p ha k la lb n _ _ (sx.filter _) (sy.filter _) (by omega) (by omega) (fun X Y u sY i j => ?_) (by omega)
      obtain ⟨g1, g2⟩ := hm X Y u sY i j
      refine ⟨fun c d => List.mem_filter.2 ⟨g1 c d, ?_⟩, fun c d => List.mem_filter.2 ⟨g2 c d, ?_⟩⟩
      · rw [mu eV, l]; exact mP g2 (i c d)
      · rw [mu eV, m]; exact mP g1 (j c d)
theorem I6 (p : fL) (ha : PB p.aC) (m : PB p.Client) (la : p.aC.aT.length ≤ 600000) (lb : p.Client.aT.length ≤ 600000) : ∃ a b, iS p = some (a, b) ∧ Ap p a b := by
  obtain ⟨x, i, sx, g⟩ := zq p.aC la
  obtain ⟨y, j, sy, h⟩ := zq p.Client lb
  have q := lh sx (fun c d => ((g c).1 d).1)
  have r := lh sy (fun c d => ((h c).1 d).1)
  unfold iS
  rw [i, Option.bind_some, j, Option.bind_some]
  exact DQ p ha m la lb bL x y sx sy (by omega) (by omega) (fun X Y n sY k l => ⟨fun c d => (g c).2 ⟨(k c d).1, n.2 c d⟩, fun c d => (h c).2 ⟨(l c d).1, sY.2 c d⟩⟩) (by rw [eG]; omega)
theorem Ap.la {p : fL} {a b : List aB} (h : Ap p a b) : a.length ≤ p.aC.aT.length := lh h.sa (fun c d => (h.fa c d).1)
theorem Ap.lb {p : fL} {a b : List aB} (h : Ap p a b) : b.length ≤ p.Client.aT.length := lh h.sb (fun c d => (h.fb c d).1)
theorem xz (p : fL) (ha : PB p.aC) (i : PB p.Client) (la : p.aC.aT.length ≤ 600000) (lb : p.Client.aT.length ≤ 600000) : ∃ a b x y j, iS p = some (a, b) ∧ Ap p a b ∧ qX p.aC p.Client = some (x, y, j) ∧ EX p.aC p.Client x y ∧ kK p = some (a.filter fun c => !eQ bT x c, b.filter fun c => !eQ bT y c) := by
  obtain ⟨a, b, g, d⟩ := I6 p ha i la lb
  obtain ⟨x, y, j, h, k⟩ := Ht p.aC p.Client ha i la lb
  have h1 := d.la
  have l := d.lb
  refine ⟨a, b, x, y, j, g, d, h, k, ?_⟩
  unfold kK
  rw [g, Option.bind_some, h, Option.bind_some]
  simp only
  rw [CQ a x (by omega), Option.bind_some, CQ b y (by omega), Option.bind_some]
end Go.Proofs.YtmlncblocfcmiaaGreat
namespace Go.Proofs.YtmlncblocfcmiaaGreat
open Go.RowKit
def nX : Formula := ⟨2, 0, jl, []⟩
def sE (c : aB) : List cI → List cI
  | [] => []
  | x :: l => if bT x.Signed.aB c then ⟨x.Signed, nX⟩ :: l else x :: sE c l
theorem CS (c : aB) : ∀ (A : List cI) (x : cI) (B : List cI), (∀ y ∈ A, bT y.Signed.aB c = false) → bT x.Signed.aB c = true → sE c (A ++ x :: B) = A ++ ⟨x.Signed, nX⟩ :: B
  | [], x, B, _, h => by rw [List.nil_append, sE, h]; rfl
  | y :: A, x, B, a, h => by
    rw [List.cons_append, sE, a y (by simp), CS c A x B (fun z b => a z (by simp [b])) h]; rfl
theorem HZ (c : aB) (l : List cI) (h : ∃ x ∈ l, x.Signed.aB = c) : ∃ (i : Nat) (x : cI), fp l (fun y => iL y c) = some (i : Int) ∧ dU l (i : Int) = some x ∧ l.set i ⟨x.Signed, nX⟩ = sE c l := by
  unfold fp
  rw [xl]
  rcases tg (fun y => iL y c) (fun y => bT y.Signed.aB c) l 0 (fun x _ => rfl) with ⟨e, h1⟩ | ⟨A, x, B, hp, h1, a, e⟩
  · obtain ⟨x, b, rfl⟩ := h
    have := h1 x b
    rw [eV.2 rfl] at this; cases this
  · rw [Nat.zero_add] at e
    refine ⟨A.length, x, e, by rw [hp]; exact fk A x B _ rfl, ?_⟩
    rw [hp, CS c A x B h1 a, List.set_append_right _ _ (Nat.le_refl _)]
    simp
theorem LF (P : fL) (c : aB) (m : P.Client.aT.length ≤ 600000) (h : tN P.Client c) : jD P 1 c = some (⟨P.aC, ⟨P.Client.Name, sE c P.Client.aT, P.Client.bP⟩, P.Formula, P.mo, P.fh, P.gl, P.jE, P.ij, P.Keys⟩, true) := by
  obtain ⟨i, x, a, b, d⟩ := HZ c P.Client.aT h
  unfold jD
  have g : ¬ ((1 : Int) < 0) := by omega
  have j : ¬ ((1 : Int) ≥ 2) := by omega
  have l : ((1 : Int) == 0) = false := rfl
  simp only [g, j, l, decide_false, Bool.false_eq_true, if_false, Option.bind_some, beq_self_eq_true, if_true]
  rw [a, Option.bind_some]
  have k : ¬ ((i : Int) < 0) := by omega
  simp only [k, decide_false, Bool.false_eq_true, if_false]
  unfold jr
  rw [eX (by simp; omega) (by simp; omega)]
  simp only [Option.bind_some, List.nil_append]
  rw [b, Option.bind_some, Int.toNat_natCast]
  rw [show (⟨x.Signed, (⟨2, 0, (⟨zS, zS⟩ : aA), []⟩ : Formula)⟩ : cI) = ⟨x.Signed, nX⟩ from rfl, d]
  have eta : (⟨P.Formula.Op, P.Formula.K, P.Formula.aA, P.Formula.Kids⟩ : Formula) = P.Formula := by cases P.Formula; rfl
  rw [eta]
theorem Iz (P : fL) (c : aB) (h : ¬ tN P.aC c) : jD P 0 c = some (P, false) := by
  unfold jD fp
  have b : ¬ ((0 : Int) < 0) := by omega
  have d : ¬ ((0 : Int) ≥ 2) := by omega
  simp only [b, d, decide_false, Bool.false_eq_true, if_false, Option.bind_some, beq_self_eq_true, if_true]
  rw [xl]
  rcases tg (fun y => iL y c) (fun y => bT y.Signed.aB c) P.aC.aT 0 (fun x _ => rfl) with ⟨e, h1⟩ | ⟨A, x, B, hp, h1, a, e⟩
  · rw [e]; rfl
  · exact absurd ⟨x, by rw [hp]; simp, eV.1 a⟩ h
def GI (l : List cI) (d : aB) : Option Formula := (l.find? fun x => bT x.Signed.aB d).map (·.aI)
theorem HU (n : ByteArray) (l : List cI) (k : List gL) (c : aB) : tN ⟨n, l, k⟩ c ↔ c ∈ l.map (·.Signed.aB) := by
  unfold tN; rw [List.mem_map]
theorem ze (n : ByteArray) (l : List cI) (c : aB) : iN ⟨n, l, []⟩ c = match GI l c with | none => (zW, 42) | some r => ul r [] := by
  unfold iN tq GI sk
  simp only
  cases l.find? (fun x => bT x.Signed.aB c) <;> rfl
theorem Kn : ul nX [] = (nX, 0) := by
  have h1 : fR nX = true := by decide +kernel
  have d : iQ nX = nX := by
    rw [rD]
    have a : ¬ (nX.Op = 1) := by decide
    have b : ¬ (nX.Op = 4) := by decide
    simp only [a, b, if_false]
    rw [show nX.Kids = [] from rfl, shapeL]
    unfold iG
    rw [gv]
    rfl
  have g : pF nX = (nX, 0) := by unfold pF; rw [h1, d, h1]; rfl
  unfold ul
  rw [g, iB]; rfl
structure PP (p : fL) : Prop where
  o : PG p.aC
  c : PG p.Client
  lo : p.aC.aT.length ≤ 600000
  lc : p.Client.aT.length ≤ 600000
  f : cD p.Formula ≤ 10000000
end Go.Proofs.YtmlncblocfcmiaaGreat
namespace Go.Proofs.YtmlncblocfcmiaaGreat
open Go.RowKit
def Gp : ByteArray := ⟨#[111, 119, 110]⟩
def Gr : ByteArray := ⟨#[99, 108, 105]⟩
def sY : aA := ⟨⟨#[120]⟩, ⟨#[121]⟩⟩
def sZ : aA := ⟨⟨#[120]⟩, ⟨#[122]⟩⟩
def sc : aB := ⟨1, sY, Gr, ⟨zS, zS⟩, ⟨zS, zS⟩, zS⟩
def sd : aB := ⟨1, sZ, Gp, ⟨zS, zS⟩, ⟨zS, zS⟩, zS⟩
def gS (r : aA) : Formula := ⟨1, 0, r, []⟩
def pU (c : aB) (f : Formula) : cI := ⟨⟨c, List.replicate 8 0⟩, f⟩
def sO : cR := ⟨Gp, [pU sd (gS sY)], []⟩
def sC (f : Formula) : cR := ⟨Gr, [pU sc f], []⟩
theorem FC : dS sc = true := by decide +kernel
theorem H3 : dS sd = true := by decide +kernel
theorem Na : sc ≠ sd := fun h => absurd (congrArg (fun c => c.cH.data.toList) h) (by decide)
theorem F8 (v : aA → Bool) (r : aA) : je v (gS r) = v r := by rw [oZ]; rfl
theorem FN {r : aA} (h : fR (gS r) = true) : ul (gS r) [] = (gS r, 0) := by
  have a : pF (gS r) = (gS r, 0) := by unfold pF; rw [h, LC rfl, h]; rfl
  unfold ul
  rw [a, iB]; rfl
theorem Cc (c d : aB) (f : Formula) : GI [pU c f] d = if bT c d then some f else none := by
  unfold GI
  rw [List.find?_cons, show (pU c f).Signed.aB = c from rfl]
  cases bT c d <;> rfl
theorem vM {n : ByteArray} {c d : aB} {f : Formula} : tN ⟨n, [pU c f], []⟩ d ↔ d = c := by
  rw [HU]; show d ∈ [c] ↔ _; simp
theorem yK {n : ByteArray} {c : aB} {r : aA} (a : fR (gS r) = true) (b : dS c = true) (l : List aB) (peer : ByteArray) (d : aB) : gy ⟨n, [pU c (gS r)], []⟩ l peer d ↔ d = c ∧ vD l peer r = true := by
  unfold gy
  rw [vM]
  constructor
  · rintro ⟨rfl, _, h⟩
    refine ⟨rfl, ?_⟩
    unfold EH at h
    rw [ze, Cc, if_pos (eV.2 rfl)] at h
    simp only [FN a] at h
    unfold tw at h
    rw [a, F8, Bool.true_and] at h
    exact h
  · rintro ⟨rfl, h⟩
    refine ⟨rfl, b, ?_⟩
    unfold EH
    rw [ze, Cc, if_pos (eV.2 rfl)]
    simp only [FN a]
    unfold tw
    rw [a, F8, Bool.true_and]
    exact h
theorem Is {n : ByteArray} {c : aB} (a : dS c = true) (l : List aB) (peer : ByteArray) (d : aB) : gy ⟨n, [pU c nX], []⟩ l peer d ↔ d = c := by
  unfold gy
  rw [vM]
  constructor
  · exact fun h => h.1
  · rintro rfl
    refine ⟨rfl, a, ?_⟩
    unfold EH
    rw [ze, Cc, if_pos (eV.2 rfl)]
    simp only [Kn]
    unfold tw
    rw [show fR nX = true by decide +kernel, oZ]
    rfl
theorem Ei {c : aB} (a : dS c = true) (hk : c.Kind = 1) {l : List aB} (h : c ∈ l) : vD l c.cH c.Head = true := by
  rw [BP]
  exact .mem c (List.mem_filter.2 ⟨h, a⟩) hk
theorem Ho (peer : ByteArray) (r : aA) : vD [] peer r = false := by
  rw [← Bool.not_eq_true, BP]
  intro h
  obtain ⟨c, a, _⟩ := h.head
  cases a
theorem Bh {n : ByteArray} {c : aB} {f : Formula} (h : cD f ≤ 10000000) : PB ⟨n, [pU c f], []⟩ where
  BI := by simp
  GN := by simp
  rel := fun x a => by obtain rfl := List.mem_singleton.1 a; exact h
  Gk := fun x a => by cases a
  Mx := fun x a => by cases a
theorem Cj {c : aB} (a : dS c = true) : gu [c] := ⟨by simp, fun x b => by obtain rfl := List.mem_singleton.1 b; exact a⟩
theorem Hc {s : List aB} {c : aB} (d : gu s) (h1 : ∀ x ∈ s, x = c) (a : c ∈ s) (b : dS c = true) : s = [c] :=
  d.ext (Cj b) (fun x => by
    rw [List.mem_singleton]
    exact ⟨h1 x, fun e => by rw [e]; exact a⟩)
theorem Hy : fR (gS sY) = true := by decide +kernel
theorem KG : fR (gS sZ) = true := by decide +kernel
def sP (f : Formula) : fL := ⟨sO, sC f, ⟨0, 0, ⟨zS, zS⟩, []⟩, 0, ⟨0, 0⟩, 0, 0, 0, []⟩
theorem KC : iS (sP (gS sZ)) = some ([sd], [sc]) ∧ kK (sP (gS sZ)) = some ([sd], [sc]) := by
  obtain ⟨a, b, x, y, j, m, h, s, p, n⟩ := xz (sP (gS sZ)) (Bh (by decide +kernel)) (Bh (by decide +kernel)) (by simp [sP, sO]) (by simp [sP, sC])
  have k : ∀ l peer d, gy sO l peer d ↔ d = sd ∧ vD l peer sY = true := fun l peer d => yK Hy H3 l peer d
  have i : ∀ l peer d, gy (sC (gS sZ)) l peer d ↔ d = sc ∧ vD l peer sZ = true := fun l peer d => yK KG FC l peer d
  have v1 : vD [sc] Gr sY = true := Ei FC rfl (by simp)
  have v2 : vD [sd] Gp sZ = true := Ei H3 rfl (by simp)
  obtain ⟨m1, m2⟩ := h.tf [sd] [sc] (Cj H3) (Cj FC)
    (fun c g => by obtain rfl := List.mem_singleton.1 g; exact (k _ _ _).2 ⟨rfl, v1⟩)
    (fun c g => by obtain rfl := List.mem_singleton.1 g; exact (i _ _ _).2 ⟨rfl, v2⟩)
  obtain rfl : a = [sd] := Hc h.sa (fun c g => ((k _ _ _).1 (h.fa c g)).1) (m1 sd (by simp)) H3
  obtain rfl : b = [sc] := Hc h.sb (fun c g => ((i _ _ _).1 (h.fb c g)).1) (m2 sc (by simp)) FC
  obtain ⟨q, r⟩ := p.least [] [] (fun c g => by have := ((k _ _ _).1 g).2; rw [Ho] at this; cases this) (fun c g => by have := ((i _ _ _).1 g).2; rw [Ho] at this; cases this)
  obtain rfl : x = [] := List.eq_nil_iff_forall_not_mem.2 (fun c g => by have := q c g; cases this)
  obtain rfl : y = [] := List.eq_nil_iff_forall_not_mem.2 (fun c g => by have := r c g; cases this)
  exact ⟨m, n⟩
theorem KB : jz (sP nX) = some true := by
  obtain ⟨a, b, x, y, j, s, m, t, k, p⟩ := xz (sP nX) (Bh (by decide +kernel)) (Bh (by decide +kernel)) (by simp [sP, sO]) (by simp [sP, sC])
  have i : ∀ l peer d, gy sO l peer d ↔ d = sd ∧ vD l peer sY = true := fun l peer d => yK Hy H3 l peer d
  have h : ∀ l peer d, gy (sC nX) l peer d ↔ d = sc := fun l peer d => Is FC l peer d
  have n : sc ∈ y := (k.fy sc).2 ((h _ _ _).2 rfl)
  have r : sd ∈ x := (k.fx sd).2 ((i _ _ _).2 ⟨rfl, Ei FC rfl n⟩)
  have h1 : a.filter (fun c => !eQ bT x c) = [] := by
    rw [List.filter_eq_nil_iff]
    intro c g
    rw [((i _ _ _).1 (m.fa c g)).1, (mu eV x sd).2 r]; simp
  have q : b.filter (fun c => !eQ bT y c) = [] := by
    rw [List.filter_eq_nil_iff]
    intro c g
    rw [(h _ _ _).1 (m.fb c g), (mu eV y sc).2 n]; simp
  unfold jz
  rw [p, Option.bind_some, h1, q]
  rfl
theorem JC : pn = some true := by
  have d : yS 1 (0 : Int) 8 = some (List.replicate 8 0) := by unfold yS; rw [if_pos (by decide)]; rfl
  obtain ⟨c1, c2⟩ := KC
  have f1 : jz (sP (gS sZ)) = some false := by
    unfold jz
    rw [c2]; rfl
  have k : jD (sP (gS sZ)) 1 sc = some (sP nX, true) := by
    rw [LF (sP (gS sZ)) sc (by simp [sP, sC]) (by exact vM.2 rfl)]
    have : sE sc (sP (gS sZ)).Client.aT = [pU sc nX] := by
      show sE sc [pU sc (gS sZ)] = _
      rw [sE, show (pU sc (gS sZ)).Signed.aB = sc from rfl, eV.2 rfl]; rfl
    rw [this]; rfl
  have j : jD (sP (gS sZ)) 0 sc = some (sP (gS sZ), false) := Iz _ _ (fun h => Na (vM.1 h))
  have f2 := KB
  have hp : sP (gS sZ) = ⟨⟨Gp, [pU sd (gS sY)], []⟩, ⟨Gr, [pU sc (gS sZ)], []⟩, ⟨0, 0, ⟨zS, zS⟩, []⟩, 0, ⟨0, 0⟩, 0, 0, 0, []⟩ := rfl
  have g : gU sd sY = some [pU sd (gS sY)] := by unfold gU; rw [d]; rfl
  have i : gU sc sZ = some [pU sc (gS sZ)] := by unfold gU; rw [d]; rfl
  unfold pn
  have a : gU ((⟨1, (⟨(⟨#[120]⟩ : ByteArray), (⟨#[122]⟩ : ByteArray)⟩ : aA), (⟨#[111, 119, 110]⟩ : ByteArray), (⟨zS, zS⟩ : aA), (⟨zS, zS⟩ : aA), zS⟩ : aB)) ((⟨(⟨#[120]⟩ : ByteArray), (⟨#[121]⟩ : ByteArray)⟩ : aA)) = _ := g
  have b : gU ((⟨1, (⟨(⟨#[120]⟩ : ByteArray), (⟨#[121]⟩ : ByteArray)⟩ : aA), (⟨#[99, 108, 105]⟩ : ByteArray), (⟨zS, zS⟩ : aA), (⟨zS, zS⟩ : aA), zS⟩ : aB)) ((⟨(⟨#[120]⟩ : ByteArray), (⟨#[122]⟩ : ByteArray)⟩ : aA)) = _ := i
  rw [a, Option.bind_some, b, Option.bind_some, Option.bind_some]
  simp only
  rw [show ((⟨⟨(⟨#[111, 119, 110]⟩ : ByteArray), [pU sd (gS sY)], []⟩, ⟨(⟨#[99, 108, 105]⟩ : ByteArray), [pU sc (gS sZ)], []⟩, ⟨0, 0, (⟨zS, zS⟩ : aA), []⟩, 0, (⟨0, 0⟩ : rM), 0, 0, 0, []⟩ : fL)) = sP (gS sZ) from rfl]
  rw [c2, Option.bind_some, c1, Option.bind_some]
  rw [show ((⟨1, (⟨(⟨#[120]⟩ : ByteArray), (⟨#[121]⟩ : ByteArray)⟩ : aA), (⟨#[99, 108, 105]⟩ : ByteArray), (⟨zS, zS⟩ : aA), (⟨zS, zS⟩ : aA), zS⟩ : aB)) = sc from rfl, k, Option.bind_some, j, Option.bind_some, f1]
  simp only [List.length_cons, List.length_nil, Option.bind_some]
  rw [f2]
  rfl
end Go.Proofs.YtmlncblocfcmiaaGreat
namespace Go.Proofs.YtmlncblocfcmiaaGreat
open Go.RowKit
theorem Lz : ∀ (n : Nat) (f : Formula), gq f ≤ n → Gd f → kG n f = some (cD f : Int) := by
  intro n
  induction n with
  | zero => intro f h; rw [fg] at h; omega
  | succ n ih =>
    intro f d g
    rw [fg] at d
    have a := gC f
    unfold Gd at g
    rw [kG]
    unfold pV
    have key : ∀ (ks : List Formula) (x : Nat), (∀ k ∈ ks, k ∈ f.Kids) → x + nodesL ks ≤ 50000000 → lu (kG n) ks (x : Int) = some ((x + nodesL ks : Nat) : Int) := by
      intro ks
      induction ks with
      | nil => intro x _ _; rw [lu, nodesL]; rfl
      | cons k ks b =>
        intro x hk i
        rw [nodesL] at i
        rw [lu, ih k (by have := kh (hk k (by simp)); omega) (by have := mO (hk k (by simp)); unfold Gd; omega), Option.bind_some]
        have w : IntKind.i64.wrap ((x : Int) + (cD k : Int)) = ((x + cD k : Nat) : Int) := by rw [cP (by omega) (by omega)]; omega
        rw [w, b _ (fun z j => hk z (by simp [j])) (by omega), nodesL]
        congr 2; omega
    have := key f.Kids 1 (fun k hk => hk) (by omega)
    rw [a]
    exact this
theorem L4 : ∀ (n : Nat) (f : Formula), gq f ≤ n → Gd f → lT n f = some (gq f : Int) := by
  intro n
  induction n with
  | zero => intro f h; rw [fg] at h; omega
  | succ n ih =>
    intro f d g
    rw [fg] at d ⊢
    have i := gC f
    have hle := qp f
    rw [fg] at hle
    unfold Gd at g
    rw [lT]
    unfold qI
    have key : ∀ (ks : List Formula) (x : Nat), (∀ k ∈ ks, k ∈ f.Kids) → max x (deepL ks) ≤ 50000000 → ma (lT n) ks (x : Int) = some ((max x (deepL ks) + 1 : Nat) : Int) := by
      intro ks
      induction ks with
      | nil =>
        intro x _ a
        rw [deepL] at a
        rw [ma, deepL, cP (by omega) (by omega)]
        congr 1; omega
      | cons k ks b =>
        intro x hk a
        rw [deepL] at a
        rw [ma, ih k (by have := kh (hk k (by simp)); omega) (by have := mO (hk k (by simp)); unfold Gd; omega), Option.bind_some]
        have w : (if (gq k : Int) > (x : Int) then (gq k : Int) else (x : Int)) = ((max x (gq k) : Nat) : Int) := by split <;> omega
        rw [w, b _ (fun z j => hk z (by simp [j])) (by omega), deepL]
        congr 2; omega
    have := key f.Kids 0 (fun k hk => hk) (by omega)
    rw [Nat.zero_max] at this
    exact this
theorem L7 : ∀ (n : Nat) (f : Formula), gq f ≤ n → lL n f = some (mI f) := by
  intro n
  induction n with
  | zero => intro f h; rw [fg] at h; omega
  | succ n ih =>
    intro f h
    rw [fg] at h
    have key : ∀ ks : List Formula, (∀ k ∈ ks, k ∈ f.Kids) → lY (lL n) ks = some (wellL ks) := by
      intro ks
      induction ks with
      | nil => intro _; rw [lY, wellL]
      | cons k ks p =>
        intro hk
        rw [lY, ih k (by have := kh (hk k (by simp)); omega), Option.bind_some, p (fun z r => hk z (by simp [r])), wellL]
        cases mI k <;> rfl
    have hk := key f.Kids (fun k hk => hk)
    rw [lL]
    unfold qK
    rw [hk, Ax, vi]
    unfold xi
    simp only [Option.bind_some]
    by_cases c1 : f.Op = 1
    · simp only [c1, beq_self_eq_true, if_true]
      cases s : ez f.aA
      · simp
      · by_cases b : f.Kids.length = 0
        · have e : f.Kids = [] := List.eq_nil_of_length_eq_zero b
          by_cases m : f.K = 0 <;> simp [e, m, wellL]
        · have : ((f.Kids.length : Int) == 0) = false := by rw [beq_eq_false_iff_ne]; omega
          simp [this, b]
    · have q : (f.Op == 1) = false := by simpa using c1
      simp only [q, Bool.false_eq_true, if_false, c1]
      by_cases i : f.Op = 2 ∨ f.Op = 3
      · have j : ¬ f.Op < 1 := by omega
        have a2 : ¬ f.Op > 4 := by omega
        have a3 : f.Op < 4 := by omega
        have a4 : (f.Op == 4) = false := by rw [beq_eq_false_iff_ne]; omega
        simp only [j, a2, a3, a4, i, decide_false, decide_true, Bool.false_eq_true, if_false, if_true, Option.bind_some]
        cases g : bB f.aA ⟨zS, zS⟩
        · simp [jl, g]
        · by_cases b : f.Kids.length ≤ 8
          · have d : ¬ ((f.Kids.length : Int) > 8) := by omega
            by_cases m : f.K = 0 <;> simp [jl, g, b, d, m]
          · have d : ((f.Kids.length : Int) > 8) := by omega
            simp [jl, g, b, d]
      · by_cases l : f.Op = 4
        · have j : ¬ f.Op < 1 := by omega
          have a2 : ¬ f.Op > 4 := by omega
          have a3 : ¬ f.Op < 4 := by omega
          simp only [j, a2, a3, i, decide_false, Bool.false_eq_true, if_false, Option.bind_some]
          simp only [l, beq_self_eq_true, if_true, decide_true, Bool.true_and]
          cases g : bB f.aA ⟨zS, zS⟩
          · simp [jl, g]
          · by_cases b : f.Kids.length ≤ 8
            · have d : ¬ ((f.Kids.length : Int) > 8) := by omega
              by_cases d1 : 1 ≤ f.Kids.length
              · have g1 : ¬ ((f.Kids.length : Int) < 1) := by omega
                by_cases d2 : 0 ≤ f.K
                · have g2 : ¬ f.K < 0 := by omega
                  by_cases d3 : f.K ≤ (f.Kids.length : Int)
                  · have g3 : ¬ f.K > (f.Kids.length : Int) := by omega
                    simp [jl, g, b, d, d1, g1, d2, g2, d3, g3]
                  · have g3 : f.K > (f.Kids.length : Int) := by omega
                    simp [jl, g, b, d, d1, g1, d2, g2, d3, g3]
                · have g2 : f.K < 0 := by omega
                  simp [jl, g, b, d, d1, g1, d2, g2]
              · have g1 : ((f.Kids.length : Int) < 1) := by omega
                simp [jl, g, b, d, d1, g1]
            · have d : ((f.Kids.length : Int) > 8) := by omega
              simp [jl, g, b, d]
        · have a : f.Op < 1 ∨ f.Op > 4 := by omega
          rcases a with a | a
          · simp [a, i, l]
          · have : ¬ f.Op < 1 := by omega
            simp [a, this, i, l]
theorem EP (f : Formula) (h : Gd f) : kI f = some (fR f) := by
  have b := qp f
  have a := h
  unfold Gd at a
  unfold kI fR
  rw [Lz bL f (by rw [eG]; omega) h, L4 bL f (by rw [eG]; omega) h, L7 bL f (by rw [eG]; omega)]
  simp only [Option.bind_some]
  by_cases c1 : cD f ≤ 64
  · have d1 : ((cD f : Int) ≤ 64) := by omega
    by_cases c2 : gq f ≤ 6
    · have d2 : ((gq f : Int) ≤ 6) := by omega
      simp [c1, c2, d1, d2]
    · have d2 : ¬ ((gq f : Int) ≤ 6) := by omega
      simp [c1, c2, d1, d2]
  · have d1 : ¬ ((cD f : Int) ≤ 64) := by omega
    simp [c1, d1]
end Go.Proofs.YtmlncblocfcmiaaGreat
namespace Go.Proofs.YtmlncblocfcmiaaGreat
open Go.RowKit
theorem Hu {f : Formula} (hw : mI f = true) (a : cD f ≤ 200) : (sw f).length ≤ 40 * cD f := (HP (gq f) f (Nat.le_refl _) hw [] (by simp; omega)).2
theorem KX : ∀ (n : Nat) (f : Formula), gq f ≤ n → mI f = true → cD f ≤ 64 → iU n f = some (pM (sw f)) := by
  intro n
  induction n with
  | zero => intro f h; rw [fg] at h; omega
  | succ n ih =>
    intro f s hw x
    rw [fg] at s
    have u := gC f
    obtain ⟨h1, m, g⟩ := qQ hw
    have b : 0 ≤ f.Op ∧ f.Op < 128 := by rcases g with h | h | h <;> omega
    have hlen : 0 ≤ (f.Kids.length : Int) ∧ (f.Kids.length : Int) < 128 := by omega
    have key : ∀ (ks : List Formula) (l : List Int), (∀ k ∈ ks, k ∈ f.Kids) → wellL ks = true → l.length + 40 * nodesL ks ≤ 8000 → nodesL ks ≤ 64 → kV (iU n) ks (pM l) = some (pM (l ++ bytesFL ks)) := by
      intro ks
      induction ks with
      | nil => intro l _ _ _ _; rw [kV, bytesFL, List.append_nil]
      | cons k ks j =>
        intro l hk a t i
        rw [wellL, Bool.and_eq_true] at a
        rw [nodesL] at t i
        have w := Hu a.1 (by omega)
        rw [kV, ih k (by have := kh (hk k (by simp)); omega) a.1 (by omega), Option.bind_some, li _ _ (by omega), Option.bind_some,
          j _ (fun z v => hk z (by simp [v])) a.2 (by simp; omega) (by omega), bytesFL, List.append_assoc]
    rw [iU]
    unfold pP
    rw [rK b.1 b.2, Option.bind_some, De]
    by_cases c1 : f.Op = 1
    · have p : ez f.aA = true := by rcases g with h | h | h; exact h.2.1; omega; omega
      have := ie p
      simp only [c1, beq_self_eq_true, if_true]
      rw [uG p, Option.bind_some, li _ _ (by simp; omega)]
      rfl
    · have q : (f.Op == 1) = false := by simpa using c1
      simp only [q, Bool.false_eq_true, if_false, c1]
      by_cases d : f.Op = 4
      · have hk : 0 ≤ f.K ∧ f.K < 128 := by rcases g with h | h | h <;> omega
        simp only [d, beq_self_eq_true, if_true]
        rw [rK hk.1 hk.2, Option.bind_some, li _ _ (by simp), Option.bind_some, Option.bind_some, rK hlen.1 hlen.2, Option.bind_some, li _ _ (by simp), Option.bind_some,
          key f.Kids _ (fun k hk => hk) m (by simp; omega) (by omega)]
        simp
      · have r : (f.Op == 4) = false := by simpa using d
        simp only [r, Bool.false_eq_true, if_false, d, Option.bind_some]
        rw [rK hlen.1 hlen.2, Option.bind_some, li _ _ (by simp), Option.bind_some, key f.Kids _ (fun k hk => hk) m (by simp; omega) (by omega)]
        simp
theorem MJ (f : Formula) (h : Gd f) : ((kI f).bind fun r => if r then (iU bL f).bind fun a => some a else some zS) = some (pM (rN f)) := by
  rw [EP f h, Option.bind_some]
  unfold rN
  cases d : fR f
  · rfl
  · obtain ⟨h1, g, b⟩ := sU d
    simp only [if_true]
    rw [KX bL f (by rw [eG]; omega) b h1, gi]
theorem Ek (f g : Formula) (i : Gd f) (j : Gd g) : ∃ c : Int, pL f g = some c ∧ (c > 0 ↔ fV vd g f = true) := by
  unfold pL
  rw [MJ f i, Option.bind_some, MJ g j, Option.bind_some, rO, nY, nY, uM]
  rcases vg (nv (rN f)) (nv (rN g)) with h | h | h
  · rw [if_pos h]
    refine ⟨-1, rfl, iff_of_false (by omega) (fun a => ?_)⟩
    have := rA _ _ _ h a
    rw [oC] at this; cases this
  · have e : dA (pM (rN f)) (pM (rN g)) = true := eA.2 (tS (by rw [nY, nY, h]))
    rw [h, oC, e]
    exact ⟨0, rfl, iff_of_false (by omega) (by simp)⟩
  · have e : Op.bytesLess (nv (rN f)) (nv (rN g)) = false := by
      rw [← Bool.not_eq_true]
      intro a
      have := rA _ _ _ h a
      rw [oC] at this; cases this
    have d : dA (pM (rN f)) (pM (rN g)) = false := by
      rw [← Bool.not_eq_true, eA]
      intro a
      have b := congrArg (fun s : ByteArray => s.data.toList) a
      simp only [nY] at b
      rw [b, oC] at h; cases h
    rw [e, d]
    exact ⟨1, rfl, iff_of_true (by omega) h⟩
theorem L8 : ∀ (n : Nat) (f : Formula), gq f ≤ n → ∀ g, ∃ b, ki n f g = some b ∧ (b = true ↔ f = g) := by
  intro n
  induction n with
  | zero => intro f h; rw [fg] at h; omega
  | succ n ih =>
    intro f h g
    rw [fg] at h
    have key : ∀ (l m A : List Formula), (∀ x ∈ l, x ∈ f.Kids) → g.Kids = A ++ m → l.length = m.length → ∃ b, lX g (ki n) l A.length = some b ∧ (b = true ↔ l = m) := by
      intro l
      induction l with
      | nil =>
        intro m A _ _ a
        obtain rfl := List.eq_nil_of_length_eq_zero a.symm
        exact ⟨true, by rw [lX], by simp⟩
      | cons x l r =>
        intro m A q t a
        match m, a with
        | y :: m, a =>
          obtain ⟨b, e, p⟩ := ih x (by have := kh (q x (by simp)); omega) y
          rw [lX, t, fk A y m _ rfl, Option.bind_some, e, Option.bind_some]
          cases b with
          | false =>
            refine ⟨false, rfl, ?_⟩
            have : x ≠ y := fun i => by have := p.2 i; simp at this
            simp [this]
          | true =>
            have i := p.1 rfl
            obtain ⟨b, s, d⟩ := r m (A ++ [y]) (fun z u => q z (by simp [u])) (by rw [t]; simp) (by simpa using a)
            rw [List.length_append, List.length_singleton] at s
            simp only [Bool.not_true, Bool.false_eq_true, if_false]
            rw [s]
            exact ⟨b, rfl, by rw [d]; simp [i]⟩
    rw [ki]
    unfold qL
    by_cases h1 : f.Op = g.Op
    · by_cases d : f.K = g.K
      · by_cases j : f.aA = g.aA
        · have k : bB f.aA g.aA = true := bD.2 j
          by_cases a : f.Kids.length = g.Kids.length
          · obtain ⟨b, e, p⟩ := key f.Kids g.Kids [] (fun x q => q) rfl a
            rw [List.length_nil] at e
            refine ⟨b, ?_, p.trans ⟨fun hk => Formula.ext' h1 d j hk, fun hk => by rw [hk]⟩⟩
            simp [h1, d, k, a, e]
          · refine ⟨false, ?_, by simp; intro hk; rw [hk] at a; exact a rfl⟩
            have : ((f.Kids.length : Int) != (g.Kids.length : Int)) = true := by simp; omega
            simp [h1, d, k, this]
        · have k : bB f.aA g.aA = false := by rw [← Bool.not_eq_true, bD]; exact j
          exact ⟨false, by simp [h1, d, k], by simp; intro hk; rw [hk] at j; exact j rfl⟩
      · exact ⟨false, by simp [h1, d], by simp; intro hk; rw [hk] at d; exact d rfl⟩
    · exact ⟨false, by simp [h1], by simp; intro hk; rw [hk] at h1; exact h1 rfl⟩
theorem Iv (a b : Formula) (h : Gd a) : ki bL a b = some (jF a b) := by
  have := qp a
  unfold Gd at h
  obtain ⟨x, e, d⟩ := L8 bL a (by rw [eG]; omega) b
  rw [e]; congr 1
  rw [Bool.eq_iff_iff, d, uE]
end Go.Proofs.YtmlncblocfcmiaaGreat
namespace Go.Proofs.YtmlncblocfcmiaaGreat
open Go.RowKit
section
variable {α : Type} {lt : α → α → Bool}
def FU (lt : α → α → Bool) (l : List α) : Prop := l.Pairwise fun x y => lt y x = false
theorem yj (h : SWO lt) (k : α) : ∀ {l : List α}, FU lt l → ∃ A B, l = A ++ B ∧ (∀ x ∈ A, lt k x = false) ∧ (∀ x ∈ B, lt k x = true)
  | [], _ => ⟨[], [], rfl, by simp, by simp⟩
  | x :: l, i => by
    obtain ⟨h1, b⟩ := List.pairwise_cons.1 i
    cases e : lt k x with
    | true =>
      refine ⟨[], x :: l, rfl, by simp, fun y a => ?_⟩
      rcases List.mem_cons.1 a with rfl | a
      · exact e
      · rcases h.Hh _ y _ e with q | q
        · exact q
        · rw [h1 y a] at q; cases q
    | false =>
      obtain ⟨A, B, rfl, d, g⟩ := yj h k b
      exact ⟨x :: A, B, rfl, fun y a => by
        rcases List.mem_cons.1 a with rfl | a
        · exact e
        · exact d y a, g⟩
theorem BC {k : α} {A B : List α} (b : ∀ x ∈ A, lt k x = false) (d : ∀ x ∈ B, lt k x = true) : vj lt (A ++ B) k = A ++ k :: B := by
  unfold vj
  rw [List.filter_append, List.filter_append]
  rw [List.filter_eq_self.2 (fun x a => by rw [b x a]; rfl), List.filter_eq_nil_iff.2 (fun x a => by rw [d x a]; simp), List.filter_eq_nil_iff.2 (fun x a => by rw [b x a]; simp), List.filter_eq_self.2 (fun x a => d x a)]
  simp
theorem FA (h : SWO lt) {k : α} {A B : List α} (g : FU lt (A ++ B)) (i : ∀ x ∈ A, lt k x = false) (j : ∀ x ∈ B, lt k x = true) : FU lt (A ++ k :: B) := by
  unfold FU at *
  rw [List.pairwise_append] at *
  refine ⟨g.1, List.pairwise_cons.2 ⟨fun x l => h.asym (j x l), g.2.1⟩, fun a ha b d => ?_⟩
  rcases List.mem_cons.1 d with rfl | d
  · exact i a ha
  · exact g.2.2 a ha b d
variable {eq : α → α → Bool}
theorem CZ (he : ∀ x y, eq x y = true ↔ x = y) (k : α) : ∀ (l : List α) (p : α), fw eq p (l ++ [k]) = if eq k ((l.getLast?).getD p) then fw eq p l else fw eq p l ++ [k]
  | [], p => by
    rw [List.nil_append, fw, fw]
    rfl
  | y :: l, p => by
    have e : ((y :: l).getLast?).getD p = (l.getLast?).getD y := by cases l <;> rfl
    rw [List.cons_append, fw, fw, CZ he k l y, e]
    by_cases h1 : eq y p = true
    · rw [if_pos h1, if_pos h1]
    · rw [if_neg h1, if_neg h1]
      split <;> rfl
def tF (eq : α → α → Bool) (l : List α) (k : α) : Bool := match l.getLast? with | some y => eq y k | none => false
theorem He (x : α) (l : List α) : (x :: l).getLast? = some ((l.getLast?).getD x) := by cases l <;> rfl
theorem JU (he : ∀ x y, eq x y = true ↔ x = y) (k : α) (l : List α) : dd eq (l ++ [k]) = if tF eq l k then dd eq l else dd eq l ++ [k] := by
  cases l with
  | nil => rfl
  | cons x l =>
    have a : dd eq ((x :: l) ++ [k]) = x :: fw eq x (l ++ [k]) := rfl
    have b : dd eq (x :: l) = x :: fw eq x l := rfl
    unfold tF
    rw [a, b, CZ he, He]
    simp only
    by_cases h : (l.getLast?).getD x = k
    · rw [h, if_pos ((he k k).2 rfl), if_pos ((he k k).2 rfl)]
    · rw [if_neg (fun q => h ((he _ _).1 q).symm), if_neg (fun q => h ((he _ _).1 q))]; rfl
theorem Ej (he : ∀ x y, eq x y = true ↔ x = y) (y : α) (B : List α) : ∀ (l : List α) (p : α), y ≠ (l.getLast?).getD p → fw eq p (l ++ y :: B) = fw eq p l ++ y :: fw eq y B
  | [], p, h => by
    have h : y ≠ p := h
    rw [List.nil_append]
    have e : fw eq p (y :: B) = if eq y p then fw eq y B else y :: fw eq y B := rfl
    rw [e, if_neg (fun q => h ((he _ _).1 q))]; rfl
  | z :: l, p, h => by
    have e : ((z :: l).getLast?).getD p = (l.getLast?).getD z := by cases l <;> rfl
    rw [e] at h
    rw [List.cons_append, fw, fw, Ej he y B l z h]
    split <;> rfl
theorem H4 (he : ∀ x y, eq x y = true ↔ x = y) (A : List α) : ∀ B : List α, (∀ y, B.head? = some y → A.getLast? ≠ some y) → dd eq (A ++ B) = dd eq A ++ dd eq B
  | [], _ => by rw [List.append_nil]; show _ = dd eq A ++ []; rw [List.append_nil]
  | y :: B, h => by
    have h := h y rfl
    cases A with
    | nil => rfl
    | cons x A =>
      have e : (x :: A).getLast? = some ((A.getLast?).getD x) := by cases A <;> rfl
      rw [e] at h
      rw [List.cons_append, dd, dd, dd, Ej he y B A x (fun q => h (by rw [q]))]; rfl
theorem Dd (he : ∀ x y, eq x y = true ↔ x = y) : ∀ (l : List α) (p : α), ((fw eq p l).getLast?).getD p = (l.getLast?).getD p
  | [], p => by rw [fw]
  | y :: l, p => by
    have e : ((y :: l).getLast?).getD p = (l.getLast?).getD y := by cases l <;> rfl
    rw [fw, e, ← Dd he l y]
    by_cases h : eq y p = true
    · rw [if_pos h, (he _ _).1 h]
    · rw [if_neg h]
      cases fw eq y l <;> rfl
theorem Jx (he : ∀ x y, eq x y = true ↔ x = y) (l : List α) : (dd eq l).getLast? = l.getLast? := by
  cases l with
  | nil => rfl
  | cons x l =>
    have e : ∀ m : List α, (x :: m).getLast? = some ((m.getLast?).getD x) := by intro m; cases m <;> rfl
    rw [dd, e, e, Dd he]
theorem KU (h : SWO lt) (he : ∀ x y, eq x y = true ↔ x = y) {k : α} {A B : List α} (g : ∀ x ∈ A, lt k x = false) (d : ∀ x ∈ B, lt k x = true) :
    dd eq (A ++ B) = dd eq A ++ dd eq B ∧ dd eq (A ++ k :: B) = (if tF eq A k then dd eq A else dd eq A ++ [k]) ++ dd eq B := by
  have h1 : ∀ y, B.head? = some y → A.getLast? ≠ some y := fun y b a => by
    have := d y (List.mem_of_mem_head? b)
    rw [g y (List.mem_of_getLast? a)] at this; cases this
  refine ⟨H4 he A B h1, ?_⟩
  have e : A ++ k :: B = (A ++ [k]) ++ B := by simp
  rw [e, H4 he (A ++ [k]) B, JU he]
  intro y b a
  rw [List.getLast?_append] at a
  simp only [List.getLast?_singleton, Option.some_or, Option.some.injEq] at a
  have := d y (List.mem_of_mem_head? b)
  rw [a, h.Jl] at this; cases this
end
end Go.Proofs.YtmlncblocfcmiaaGreat
namespace Go.Proofs.YtmlncblocfcmiaaGreat
open Go.RowKit
theorem Bp (l : List Formula) (k : Formula) (g : ∀ x ∈ l, Gd x) (hk : Gd k) (A : List Formula) (j : ∀ x ∈ A, fV vd k x = false) : ∀ (m : Nat) (B C : List Formula), B.length = m → l = A ++ B ++ C → (∀ x ∈ B, fV vd k x = true) → l.length ≤ 1000000 → ∀ n, m < n →
    jb l k n (((A.length + B.length : Nat)) : Int) = some (A.length : Int)
  | 0, B, C, hm, a, d, hlen, n + 1, r => by
    obtain rfl := List.eq_nil_of_length_eq_zero hm
    rw [jb]
    simp only [List.length_nil, Nat.add_zero]
    rcases List.eq_nil_or_concat A with rfl | ⟨A', y, rfl⟩
    · rfl
    · rw [List.concat_eq_append] at *
      have hp : (((A' ++ [y]).length : Int)) > 0 := by simp
      simp only [hp, decide_true, if_true]
      have hw : IntKind.i64.wrap ((((A' ++ [y]).length : Int)) - 1) = (A'.length : Int) := by
        simp at hlen a ⊢
        rw [a] at hlen
        simp at hlen
        rw [cP (by omega) (by omega)]
      rw [hw, show dU l (A'.length : Int) = some y from by rw [a]; simp only [List.append_nil, List.append_assoc]; exact fk A' y C _ rfl, Option.bind_some]
      have i : y ∈ l := by rw [a]; simp
      obtain ⟨c, e, h⟩ := Ek y k (g y i) hk
      have b : ¬ c > 0 := fun q => by have := h.1 q; rw [j y (by simp)] at this; cases this
      rw [e, Option.bind_some]
      simp [b]
  | m + 1, B, C, hm, a, d, hlen, n + 1, r => by
    rcases List.eq_nil_or_concat B with rfl | ⟨B', y, rfl⟩
    · simp at hm
    · rw [List.concat_eq_append] at *
      rw [jb]
      have hp : (((A.length + (B' ++ [y]).length : Nat)) : Int) > 0 := by simp; omega
      simp only [hp, decide_true, if_true]
      have hw : IntKind.i64.wrap ((((A.length + (B' ++ [y]).length : Nat)) : Int) - 1) = ((A.length + B'.length : Nat) : Int) := by
        rw [a] at hlen
        simp at hlen
        rw [cP (by simp; omega) (by simp; omega)]; simp; omega
      have p : dU l ((A.length + B'.length : Nat) : Int) = some y := by
        rw [a]
        have e : A ++ (B' ++ [y]) ++ C = (A ++ B') ++ y :: C := by simp
        rw [e]
        exact fk (A ++ B') y C _ (by simp)
      rw [hw, p, Option.bind_some]
      have i : y ∈ l := by rw [a]; simp
      obtain ⟨c, e, h⟩ := Ek y k (g y i) hk
      have b : c > 0 := h.2 (d y (by simp))
      rw [e, Option.bind_some]
      simp only [b, decide_true, Option.bind_some, if_true]
      exact Bp l k g hk A j m B' (y :: C) (by simp at hm; omega) (by rw [a]; simp) (fun x s => d x (by simp [s])) hlen n (by omega)
theorem MQ {b : Bool} (h : b = true) : lV b = some () := by rw [h]; rfl
theorem zO (a : Bool) (k : Formula) (ks A B : List Formula) (j : ∀ x ∈ A ++ B, Gd x) (hk : Gd k) (l : ∀ x ∈ A, fV vd k x = false) (m : ∀ x ∈ B, fV vd k x = true) (hlen : (A ++ B).length ≤ 1000000) :
    eU a (k :: ks) (A ++ B) = if a && tF jF A k then eU a ks (A ++ B) else eU a ks (A ++ k :: B) := by
  have i := Bp (A ++ B) k j hk A l B.length B [] rfl (by simp) m hlen bL (by rw [eG]; simp at hlen; omega)
  have b : A.length + B.length ≤ 1000000 := by simpa using hlen
  rw [eU, List.length_append, i, Option.bind_some]
  have rest : ((lV (decide ((0 : Int) ≤ (A.length : Int)) && decide ((A.length : Int) ≤ ((A ++ B).length : Int)))).bind fun _ => (eT 72 ([]) ((A ++ B).take (Int.toNat (A.length : Int)))).bind fun d => (eT 72 d ([k])).bind fun g => (lV (decide ((0 : Int) ≤ (A.length : Int)) && decide ((A.length : Int) ≤ ((A ++ B).length : Int)))).bind fun _ => (eT 72 g ((A ++ B).drop (Int.toNat (A.length : Int)))).bind fun h => eU a ks h) = eU a ks (A ++ k :: B) := by
    rw [MQ (by simp; omega), Option.bind_some, Int.toNat_natCast, List.take_left, List.drop_left, eX (by simp; omega) (by simp; omega), Option.bind_some, eX (by simp; omega) (by simp; omega), Option.bind_some, Option.bind_some, eX (by simp; omega) (by simp; omega), Option.bind_some]
    simp
  rw [List.length_append] at rest
  cases a with
  | false => exact rest
  | true =>
    simp only [if_true, Option.bind_some, Bool.true_and]
    rcases List.eq_nil_or_concat A with rfl | ⟨A', y, rfl⟩
    · exact rest
    · rw [List.concat_eq_append] at *
      have hp : (((A' ++ [y]).length : Int)) > 0 := by simp
      simp only [hp, decide_true, if_true]
      have hw : IntKind.i64.wrap ((((A' ++ [y]).length : Int)) - 1) = (A'.length : Int) := by
        simp at b ⊢
        rw [cP (by omega) (by omega)]
      have p : dU ((A' ++ [y]) ++ B) (A'.length : Int) = some y := by
        simp only [List.append_assoc, List.cons_append, List.nil_append]
        exact fk A' y B _ rfl
      rw [hw, p, Option.bind_some, Iv y k (j y (by simp)), Option.bind_some, Option.bind_some]
      have n : tF jF (A' ++ [y]) k = jF y k := by unfold tF; rw [List.getLast?_append]; rfl
      rw [n]
      cases jF y k
      · simp only [Bool.false_eq_true, if_false]; exact rest
      · rfl
theorem Bz {x : Formula} {l : List Formula} (h : x ∈ dd jF l) : x ∈ l := (E3 (fun _ _ => uE) l x).1 h
theorem Ac : ∀ (ks S : List Formula), FU (fV vd) S → (∀ x ∈ S, Gd x) → (∀ x ∈ ks, Gd x) → S.length + ks.length ≤ 1000000 → eU true ks (dd jF S) = some (dd jF (ks.foldl (vj (fV vd)) S))
  | [], S, _, _, _, _ => by rw [eU]; rfl
  | k :: ks, S, j, g, hk, m => by
    rw [List.length_cons] at m
    obtain ⟨A, B, rfl, b, d⟩ := yj CB k j
    obtain ⟨n, p⟩ := KU (eq := jF) CB (fun _ _ => uE) b d
    have i := EK jF (A ++ B)
    rw [n] at i ⊢
    rw [zO true k ks (dd jF A) (dd jF B) (fun x a => by
      rcases List.mem_append.1 a with h | h
      · exact g x (by simp [Bz h])
      · exact g x (by simp [Bz h])) (hk k (by simp)) (fun x a => b x (Bz a)) (fun x a => d x (Bz a)) (by omega), List.foldl_cons, BC b d]
    have q : tF jF (dd jF A) k = tF jF A k := by unfold tF; rw [Jx (eq := jF) (fun _ _ => uE)]
    rw [q, Bool.true_and]
    have ih := Ac ks (A ++ k :: B) (FA CB j b d) (fun x a => by
      rcases List.mem_append.1 a with h | h
      · exact g x (by simp [h])
      · rcases List.mem_cons.1 h with rfl | h
        · exact hk _ (by simp)
        · exact g x (by simp [h])) (fun x a => hk x (by simp [a])) (by simp at m ⊢; omega)
    rw [p] at ih
    cases l : tF jF A k
    · rw [l] at ih
      simp only [Bool.false_eq_true, if_false] at ih ⊢
      rw [← ih]; simp
    · rw [l] at ih
      simp only [if_true] at ih ⊢
      exact ih
theorem A8 : ∀ (ks S : List Formula), FU (fV vd) S → (∀ x ∈ S, Gd x) → (∀ x ∈ ks, Gd x) → S.length + ks.length ≤ 1000000 → eU false ks S = some (ks.foldl (vj (fV vd)) S)
  | [], S, _, _, _, _ => by rw [eU]; rfl
  | k :: ks, S, i, d, hk, j => by
    rw [List.length_cons] at j
    obtain ⟨A, B, rfl, a, b⟩ := yj CB k i
    rw [zO false k ks A B d (hk k (by simp)) a b (by omega), List.foldl_cons, BC a b, Bool.false_and]
    simp only [Bool.false_eq_true, if_false]
    exact A8 ks (A ++ k :: B) (FA CB i a b) (fun x g => by
      rcases List.mem_append.1 g with h | h
      · exact d x (by simp [h])
      · rcases List.mem_cons.1 h with rfl | h
        · exact hk _ (by simp)
        · exact d x (by simp [h])) (fun x g => hk x (by simp [g])) (by simp at j ⊢; omega)
theorem LY (l : List Formula) (h : ∀ x ∈ l, Gd x) (a : l.length ≤ 1000000) : oh l true = some (dd jF (ow l)) := Ac l [] List.Pairwise.nil (by simp) h (by simpa using a)
theorem M0 (l : List Formula) (h : ∀ x ∈ l, Gd x) (a : l.length ≤ 1000000) : oh l false = some (ow l) := A8 l [] List.Pairwise.nil (by simp) h (by simpa using a)
end Go.Proofs.YtmlncblocfcmiaaGreat
namespace Go.Proofs.YtmlncblocfcmiaaGreat
open Go.RowKit
theorem zD (f : Formula) (op : Int) : od f op = some (dL op f) := xC f op
theorem EC (op : Int) (a : op = 2 ∨ op = 3) (s : cW) : ∀ l : List Formula, iK op s l = some (if l.any (dL (5 - op)) then .inl (⟨5 - op, 0, jl, []⟩, s) else .inr ())
  | [] => rfl
  | x :: l => by
    have hw : IntKind.i64.wrap (5 - op) = 5 - op := cP (by omega) (by omega)
    rw [iK, hw, zD, Option.bind_some, List.any_cons, EC op a s l]
    cases dL (5 - op) x <;> rfl
theorem H2 (op : Int) (a : op = 2 ∨ op = 3) (l : List Formula) (j : nodesL l ≤ 64) : fH op ⟨false⟩ [] l = some (if l.any (dL (5 - op)) then ⟨5 - op, 0, jl, []⟩ else match dd jF (ow l) with | [x] => x | r => ⟨op, 0, jl, r⟩, ⟨false⟩) := by
  have g := jh l
  rw [fH, EC op a, Option.bind_some]
  cases h : l.any (dL (5 - op))
  · simp only [Bool.false_eq_true, if_false]
    rw [LY l (fun x d => by have := mO d; unfold Gd; omega) (by omega), Option.bind_some]
    have i := EK jF (ow l)
    have hp := (rF l).length_eq
    have b : ¬ (((dd jF (ow l)).length : Int) > 64) := by omega
    simp only [b, decide_false, Bool.false_eq_true, if_false, Option.bind_some]
    generalize dd jF (ow l) = r
    match r with
    | [] => rfl
    | [x] => rfl
    | x :: y :: r =>
      have : (((x :: y :: r).length : Int) == 1) = false := by simp; omega
      simp only [this, Bool.false_eq_true, if_false]
      rfl
  · rfl
theorem AA (op : Int) (d : op = 2 ∨ op = 3) : ∀ (ks acc : List Formula), nodesL acc + nodesL ks ≤ 64 →
    fH op ⟨false⟩ ks acc = some (if (acc ++ gv op ks).any (dL (5 - op)) then ⟨5 - op, 0, jl, []⟩ else match dd jF (ow (acc ++ gv op ks)) with | [x] => x | r => ⟨op, 0, jl, r⟩, ⟨false⟩)
  | [], acc, h => by
    rw [nodesL] at h
    rw [gv, List.append_nil]
    exact H2 op d acc (by omega)
  | k :: ks, acc, h => by
    rw [nodesL] at h
    have h1 := gC k
    have l := jh k.Kids
    have m := jh acc
    have e : ∀ a b : List Formula, nodesL (a ++ b) = nodesL a + nodesL b := by
      intro a b
      induction a with
      | nil => rw [List.nil_append, nodesL]; omega
      | cons x a g => rw [List.cons_append, nodesL, nodesL, g]; omega
    have hw : IntKind.i64.wrap (5 - op) = 5 - op := cP (by omega) (by omega)
    rw [fH, gv]
    by_cases c : k.Op = op
    · simp only [c, beq_self_eq_true, if_true]
      rw [eX (by omega) (by omega), Option.bind_some, AA op d ks _ (by rw [e]; omega), List.append_assoc]
    · have i : (k.Op == op) = false := by simpa using c
      simp only [i, Bool.false_eq_true, if_false, c]
      rw [zD, hw, Option.bind_some]
      cases j : dL (5 - op) k
      · simp only [Bool.false_eq_true, if_false]
        rw [eX (by simp; omega) (by simp; omega), Option.bind_some, AA op d ks _ (by rw [e, nodesL, nodesL]; omega), List.append_assoc]
      · simp only [if_true]
        have : (acc ++ ([k] ++ gv op ks)).any (dL (5 - op)) = true := by simp [j]
        rw [this]; rfl
theorem GH (op : Int) (a : op = 2 ∨ op = 3) (ks : List Formula) (h : nodesL ks ≤ 64) : iF ⟨false⟩ op ks = some (iG op ks, ⟨false⟩) := by
  unfold iF iG
  rw [AA op a ks [] (by rw [nodesL]; omega), List.nil_append]
  rfl
theorem vw : ∀ (ks acc : List Formula) (k : Int), -1000 ≤ k - (ks.length : Int) → k ≤ 1000 → acc.length + ks.length ≤ 1000 →
    fz ks k acc = some (k - ((ks.filter (dL 2)).length : Int), acc ++ ks.filter fun x => !dL 2 x && !dL 3 x)
  | [], acc, k, h1, a, b => by rw [fz]; simp
  | x :: ks, acc, k, h1, a, b => by
    simp only [List.length_cons] at h1 b
    rw [fz, zD, Option.bind_some, zD, Option.bind_some]
    rw [List.filter_cons, List.filter_cons]
    cases c2 : dL 2 x
    · cases d : dL 3 x
      · simp only [Bool.not_false, Bool.and_self, Bool.false_eq_true, if_false, if_true]
        rw [eX (by simp; omega) (by simp; omega), Option.bind_some, vw ks _ k (by omega) a (by simp; omega)]
        simp only [List.append_assoc, List.cons_append, List.nil_append]
      · simp only [Bool.not_false, Bool.not_true, Bool.and_false, Bool.false_eq_true, if_false]
        rw [vw ks _ k (by omega) a (by omega)]
    · simp only [Bool.not_true, Bool.false_and, Bool.false_eq_true, if_false, if_true]
      rw [cP (by omega) (by omega), vw ks _ (k - 1) (by omega) (by omega) (by omega)]
      simp only [List.length_cons]
      have e : k - 1 - ((ks.filter (dL 2)).length : Int) = k - (((ks.filter (dL 2)).length + 1 : Nat) : Int) := by omega
      rw [e]
theorem Kw : ∀ (n : Nat) (f : Formula), gq f ≤ n → cD f ≤ 64 → mI f = true → fF n ⟨false⟩ f = some (iQ f, ⟨false⟩) := by
  intro n
  induction n with
  | zero => intro f h; rw [fg] at h; omega
  | succ n ih =>
    intro f v E hw
    rw [fg] at v
    have w := gC f
    obtain ⟨h1, u, q⟩ := qQ hw
    rw [fF]
    unfold lM
    rw [rD]
    by_cases c1 : f.Op = 1
    · simp only [c1, beq_self_eq_true, if_true]
    · have r : (f.Op == 1) = false := by simpa using c1
      simp only [r, Bool.false_eq_true, if_false, c1]
      have last : ∀ acc : List Formula, nodesL acc ≤ 64 → fQ (fF n) f [] acc ⟨false⟩ = some (if f.Op = 4 then mn f.K acc else iG f.Op acc, ⟨false⟩) := by
        intro acc b
        have hlen := jh acc
        have D := sn (fun x => !dL 2 x && !dL 3 x) acc
        rw [fQ]
        by_cases p : f.Op = 4
        · have hk : 0 ≤ f.K ∧ f.K ≤ (f.Kids.length : Int) := by rcases q with h | h | h <;> omega
          have i : ¬ f.Op < 4 := by omega
          simp only [i, p, decide_false, Bool.false_eq_true, if_false, if_true]
          rw [vw acc [] f.K (by omega) (by omega) (by simp; omega), Option.bind_some, List.nil_append]
          unfold mn
          simp only
          have g := jh (acc.filter fun x => !dL 2 x && !dL 3 x)
          have hm : ∀ x ∈ (acc.filter fun x => !dL 2 x && !dL 3 x), Gd x := fun x y => by have := mO y; unfold Gd; omega
          generalize (acc.filter fun x => !dL 2 x && !dL 3 x) = l at *
          generalize f.K - ((acc.filter (dL 2)).length : Int) = k
          by_cases d1 : k ≤ 0
          · simp only [d1, decide_true, if_true]; rfl
          · simp only [d1, decide_false, Bool.false_eq_true, if_false]
            by_cases d2 : k > (l.length : Int)
            · simp only [d2, decide_true, if_true]; rfl
            · simp only [d2, decide_false, Bool.false_eq_true, if_false]
              by_cases d3 : k = (l.length : Int)
              · simp only [← d3, beq_self_eq_true, if_true]
                rw [GH 2 (.inl rfl) l (by omega), Option.bind_some]
                rfl
              · have s : (k == (l.length : Int)) = false := by simpa using d3
                simp only [s, Bool.false_eq_true, if_false, d3]
                by_cases d4 : k = 1
                · simp only [d4, beq_self_eq_true, if_true]
                  rw [GH 3 (.inr rfl) l (by omega), Option.bind_some]
                  rfl
                · have t : (k == 1) = false := by simpa using d4
                  simp only [t, Bool.false_eq_true, if_false, d4]
                  rw [M0 l hm (by omega)]
                  rfl
        · have j : f.Op = 2 ∨ f.Op = 3 := by rcases q with h | h | h <;> omega
          have i : f.Op < 4 := by omega
          simp only [i, p, decide_true, if_true, if_false]
          rw [GH f.Op j acc b, Option.bind_some]
      have key : ∀ (ks acc : List Formula), (∀ k ∈ ks, k ∈ f.Kids) → wellL ks = true → nodesL (acc ++ shapeL ks) ≤ 64 → nodesL ks ≤ 64 → fQ (fF n) f ks acc ⟨false⟩ = some (if f.Op = 4 then mn f.K (acc ++ shapeL ks) else iG f.Op (acc ++ shapeL ks), ⟨false⟩) := by
        intro ks
        induction ks with
        | nil =>
          intro acc _ _ b _
          rw [shapeL, List.append_nil] at *
          exact last acc b
        | cons k ks m =>
          intro acc hk a b g
          rw [wellL, Bool.and_eq_true] at a
          rw [nodesL] at g
          rw [shapeL] at b
          have d := jh (acc ++ iQ k :: shapeL ks)
          simp only [List.length_append, List.length_cons] at d
          rw [fQ, ih k (by have := kh (hk k (by simp)); omega) (by omega) a.1, Option.bind_some, eX (by simp; omega) (by simp; omega), Option.bind_some,
            m (acc ++ [iQ k]) (fun z A => hk z (by simp [A])) a.2 (by rw [List.append_assoc]; exact b) (by omega), shapeL]
          simp only [List.append_assoc, List.cons_append, List.nil_append]
      have := yn f.Kids
      have := key f.Kids [] (fun k hk => hk) u (by simpa using by omega) (by omega)
      simpa using this
theorem Ji (f : Formula) (h : Gd f) : sv f = some (pF f) := by
  unfold sv pF
  rw [EP f h, Option.bind_some]
  cases b : fR f
  · rfl
  · obtain ⟨h1, d, a⟩ := sU b
    have g := tC f
    simp only [Bool.not_true, Bool.false_eq_true, if_false, if_true]
    rw [Kw bL f (by rw [eG]; omega) h1 a, Option.bind_some, EP (iQ f) (by unfold Gd; omega)]
    simp only [Bool.false_eq_true, if_false, Option.bind_some]
    cases fR (iQ f) <;> rfl
theorem Br (c : aB) : ∀ (l : List gL) (e o k : Int) (r : aA) (ks : List Formula), (∀ a ∈ l, cD a.aI ≤ 10000000) → cD ⟨o, k, r, ks⟩ ≤ 64 →
    mz c l e o k r ks = some (let t := iB (⟨o, k, r, ks⟩, e) ((l.filter fun a => eQ bT a.eS c).map (·.aI)); (t.2, t.1.Op, t.1.K, t.1.aA, t.1.Kids))
  | [], e, o, k, r, ks, _, _ => by rw [mz, List.filter_nil, List.map_nil, iB]
  | a :: l, e, o, k, r, ks, h, p => by
    have ha := h a (by simp)
    have j : ∀ x ∈ l, cD x.aI ≤ 10000000 := fun x v => h x (by simp [v])
    rw [mz, List.filter_cons, zB]
    by_cases d : e = 0
    · have i : (e == 0) = true := by simp [d]
      simp only [i, if_true, Option.bind_some]
      cases z : eQ bT a.eS c
      · simp only [Bool.false_eq_true, if_false]
        exact Br c l e o k r ks j p
      · simp only [if_true]
        rw [List.map_cons, iB]
        simp only [d, if_true]
        have s : Gd ⟨2, 0, jl, [⟨o, k, r, ks⟩, a.aI]⟩ := by show cD _ ≤ _; rw [cD, nodesL, nodesL, nodesL]; omega
        rw [show (⟨2, 0, (⟨zS, zS⟩ : aA), [(⟨o, k, r, ks⟩ : Formula), a.aI]⟩ : Formula) = ⟨2, 0, jl, [⟨o, k, r, ks⟩, a.aI]⟩ from rfl, Ji _ s, Option.bind_some]
        have u := rG (f := ⟨2, 0, jl, [⟨o, k, r, ks⟩, a.aI]⟩)
        generalize pF ⟨2, 0, jl, [⟨o, k, r, ks⟩, a.aI]⟩ = q at *
        obtain ⟨⟨w, k', y, n⟩, e'⟩ := q
        exact Br c l e' w k' y n j u
    · have i : (e == 0) = false := by simpa using d
      simp only [i, Bool.false_eq_true, if_false, Option.bind_some]
      rw [Br c l e o k r ks j p]
      have b : ∀ m : List Formula, iB (⟨o, k, r, ks⟩, e) m = (⟨o, k, r, ks⟩, e) := by
        intro m
        cases m with
        | nil => rw [iB]
        | cons g m => rw [iB]; simp only [d, if_false]
      rw [b, b]
theorem Hx (c : aB) (p : cR) (hp : PB p) : ∀ l : List cI, (∀ x ∈ l, x ∈ p.aT) → pd c p l = some (match l.find? (fun x => bT x.Signed.aB c) with | none => (zW, 42) | some x => ul x.aI ((sk p c).map (·.aI)))
  | [], _ => rfl
  | x :: l, h => by
    rw [pd, List.find?_cons]
    cases j : bT x.Signed.aB c
    · simp only [Bool.not_false, if_true]
      exact Hx c p hp l (fun z g => h z (by simp [g]))
    · simp only [Bool.not_true, Bool.false_eq_true, if_false]
      have m := hp.rel x (h x (by simp))
      have d := rG (f := x.aI)
      rw [Ji _ (by unfold Gd; omega), Option.bind_some]
      unfold ul sk
      generalize pF x.aI = q at *
      obtain ⟨⟨o, k, r, ks⟩, e⟩ := q
      rw [Br c p.bP e o k r ks hp.Gk d, Option.bind_some]
      simp only
      generalize iB (⟨o, k, r, ks⟩, e) ((p.bP.filter fun a => eQ bT a.eS c).map (·.aI)) = t
      obtain ⟨⟨n, k', s, i⟩, e'⟩ := t
      by_cases c1 : e' = 0
      · subst c1; rfl
      · have b : (e' != 0) = true := by simp [c1]
        simp only [b, if_true, c1, if_false]; rfl
theorem Mn (p : cR) (hp : PB p) (c : aB) : ux p c = some (iN p c) := by
  unfold ux iN tq
  rw [Hx c p hp _ (fun x a => a)]
  cases p.aT.find? (fun x => bT x.Signed.aB c) <;> rfl
end Go.Proofs.YtmlncblocfcmiaaGreat
namespace Go.Proofs.YtmlncblocfcmiaaGreat
open Go.RowKit
theorem M2 (l : List aA) (r : aA) : tp l r = some (eQ bB l r) := by
  unfold tp
  induction l with
  | nil => rfl
  | cons x l ih =>
    rw [qo, ih]
    have e : eQ bB (x :: l) r = (bB r x || eQ bB l r) := rfl
    have a : bB x r = bB r x := by rw [Bool.eq_iff_iff, bD, bD]; exact eq_comm
    rw [e, a]
    cases bB r x <;> rfl
theorem AO (l : List aA) (rec : Formula → List aA → Option Bool) (f : Formula) (v : aA → Bool) : ∀ (ks : List Formula) (x : Nat), (∀ k ∈ ks, rec k l = some (je v k)) → x + ks.length ≤ 100000000 →
    kx rec l f ks (x : Int) = some (if f.Op = 2 then decide (x + evN v ks = f.Kids.length) else if f.Op = 3 then decide (0 < x + evN v ks) else decide (f.K ≤ ((x + evN v ks : Nat) : Int)))
  | [], x, _, _ => by
    rw [kx, evN, Nat.add_zero]
    by_cases c2 : f.Op = 2
    · simp only [c2, beq_self_eq_true, if_true]
      congr 1
      rw [Bool.eq_iff_iff, beq_iff_eq, decide_eq_true_eq]; omega
    · have b : (f.Op == 2) = false := by simpa using c2
      simp only [b, Bool.false_eq_true, if_false, c2]
      by_cases a : f.Op = 3
      · simp only [a, beq_self_eq_true, if_true]
        congr 1
        rw [Bool.eq_iff_iff, decide_eq_true_eq, decide_eq_true_eq]; omega
      · have g : (f.Op == 3) = false := by simpa using a
        simp only [g, Bool.false_eq_true, if_false, a]
        first | done | rfl
  | k :: ks, x, h, i => by
    rw [List.length_cons] at i
    rw [kx, h k (by simp), Option.bind_some, evN]
    cases je v k
    · simp only [Bool.false_eq_true, if_false]
      rw [AO l rec f v ks x (fun z d => h z (by simp [d])) (by omega), Nat.zero_add]
    · simp only [if_true]
      have e : IntKind.i64.wrap ((x : Int) + 1) = ((x + 1 : Nat) : Int) := by rw [cP (by omega) (by omega)]; omega
      rw [e, AO l rec f v ks (x + 1) (fun z d => h z (by simp [d])) (by omega)]
      have b : x + 1 + evN v ks = x + (1 + evN v ks) := by omega
      rw [b]
theorem LS (l : List aA) : ∀ (n : Nat) (f : Formula), gq f ≤ n → Gd f → lR n f l = some (je (eQ bB l) f) := by
  intro n
  induction n with
  | zero => intro f h; rw [fg] at h; omega
  | succ n ih =>
    intro f b d
    rw [fg] at b
    have g := gC f
    have i := jh f.Kids
    unfold Gd at d
    rw [lR]
    unfold qH
    rw [oZ, M2]
    by_cases c1 : f.Op = 1
    · simp only [c1, beq_self_eq_true, if_true, Option.bind_some]
    · have a : (f.Op == 1) = false := by simpa using c1
      simp only [a, Bool.false_eq_true, if_false, c1]
      have := AO l (lR n) f (eQ bB l) f.Kids 0 (fun k hk => ih k (by have := kh hk; omega) (by have := mO hk; unfold Gd; omega)) (by omega)
      simpa using this
theorem Hv (F : List aV) (w : ByteArray) : eQ bB (En F w) = vF F w := by
  funext r
  unfold vF En
  rw [Bool.eq_iff_iff, mu bD, mu tG, List.mem_map]
  constructor
  · rintro ⟨f, b, rfl⟩
    obtain ⟨h1, a⟩ := List.mem_filter.1 b
    have := eA.1 a
    rw [← this]; exact h1
  · intro h
    exact ⟨⟨r, w⟩, List.mem_filter.2 ⟨h, eA.2 rfl⟩, rfl⟩
theorem xF (p : cR) (hp : PB p) (l : List aA) (v : aA → Bool) (a : eQ bB l = v) : ∀ (xs : List cI) (acc : List aB), acc.length + xs.length ≤ 1000000000 → kw p l xs acc = nT (acc ++ (xs.filter (tJ p v)).map (·.Signed.aB))
  | [], acc, _ => by rw [kw, List.filter_nil, List.map_nil, List.append_nil, gi]
  | x :: xs, acc, h => by
    rw [List.length_cons] at h
    have g := CK p x.Signed.aB
    have d := qp (iN p x.Signed.aB).1
    rw [kw, Mn p hp, Option.bind_some, LS l bL _ (by rw [eG]; omega) (by unfold Gd; omega), a, List.filter_cons]
    unfold tJ
    by_cases c : (iN p x.Signed.aB).2 = 0
    · have b := (HV c).1
      simp only [c, beq_self_eq_true, if_true, decide_true, Bool.true_and, Option.bind_some]
      unfold tw
      rw [b, Bool.true_and]
      cases i : je v (iN p x.Signed.aB).1
      · simp only [Bool.false_eq_true, if_false]
        exact xF p hp l v a xs acc (by omega)
      · simp only [if_true]
        rw [eX (by simp; omega) (by simp; omega), Option.bind_some, xF p hp l v a xs _ (by simp; omega)]
        simp only [List.map_cons, List.append_assoc, List.cons_append, List.nil_append]
        rfl
    · have e : ((iN p x.Signed.aB).2 == 0) = false := by simpa using c
      simp only [e, Bool.false_eq_true, if_false, c, decide_false, Bool.false_and, Option.bind_some]
      exact xF p hp l v a xs acc (by omega)
theorem DI (p : cR) (hp : PB p) (l : List aB) (d : l.length ≤ 30000) (peer : ByteArray) : nl p l peer = jv p l peer := by
  obtain ⟨F, a⟩ := MN l d
  obtain ⟨s, e, g⟩ := JX p hp a peer
  have := hp.BI
  have h1 : (p.aT.filter (tJ p (vF F peer))).length ≤ p.aT.length := List.length_filter_le _ _
  have hlen := a.len
  unfold nl
  rw [a.ref, Option.bind_some, show oU F peer = some (En F peer) from KH F peer (by omega), Option.bind_some, e]
  rw [xF p hp _ (vF F peer) (Hv F peer) p.aT [] (by simp; omega), List.nil_append]
  obtain ⟨t, b, h⟩ := Cp ((p.aT.filter (tJ p (vF F peer))).map (·.Signed.aB)) (by simp; omega)
  rw [b, oI.unique vB h g]
end Go.Proofs.YtmlncblocfcmiaaGreat
namespace Go.Proofs.YtmlncblocfcmiaaGreat
open Go.RowKit
theorem D9 : ∀ (l m A : List aB), l.length = m.length → ∃ b, jk (A ++ m) l A.length = some b ∧ (b = true ↔ l = m)
  | [], m, A, d => by
    obtain rfl := List.eq_nil_of_length_eq_zero d.symm
    exact ⟨true, by rw [jk], by simp⟩
  | x :: l, [], A, d => by simp at d
  | x :: l, y :: m, A, d => by
    have i1 : dU (A ++ y :: m) (A.length : Int) = some y := fk _ _ _ _ rfl
    rw [jk, i1, Option.bind_some]
    cases g : bT x y with
    | false =>
      refine ⟨false, by simp [g], ?_⟩
      have : x ≠ y := fun a => by have := eV.2 a; rw [this] at g; cases g
      simp [this]
    | true =>
      have a := eV.1 g
      obtain ⟨b, h, k⟩ := D9 l m (A ++ [y]) (by simpa using d)
      have i : A ++ y :: m = (A ++ [y]) ++ m := by simp
      have j : A.length + 1 = (A ++ [y]).length := by simp
      simp only [Bool.not_true, Bool.false_eq_true, if_false]
      rw [i, j, h]
      exact ⟨b, rfl, by rw [k]; simp [a]⟩
theorem Jf (l m : List aB) : ∃ b, fX l m = some b ∧ (b = true ↔ l = m) := by
  unfold fX
  by_cases h : l.length = m.length
  · have : ((l.length : Int) != (m.length : Int)) = false := by simp [h]
    simp only [this, Bool.false_eq_true, if_false]
    exact D9 l m [] h
  · have : ((l.length : Int) != (m.length : Int)) = true := by simp; omega
    simp only [this, if_true]
    exact ⟨false, rfl, by simp; intro hk; rw [hk] at h; exact h rfl⟩
theorem D6 {x p : List aB} (sx : gu x) (sp : gu p) (h : ∀ c ∈ x, c ∈ p) : fX p x = some (decide (p.length = x.length)) := by
  obtain ⟨b, e, a⟩ := Jf p x
  rw [e]; congr 1
  rw [Bool.eq_iff_iff, a, decide_eq_true_eq]
  exact ⟨fun q => by rw [q], fun q => (sx.eq sp h (by omega)).symm⟩
theorem BN (a b : cR) (ha : PB a) (g : PB b) (la : a.aT.length ≤ 30000) (lb : b.aT.length ≤ 30000) : ∀ (n : Nat) (x y : List aB) (i : Int), gu x → gu y → (∀ c ∈ x, gy a y b.Name c) → (∀ c ∈ y, gy b x a.Name c) →
    mA a b n x y i = iX a b n x y i
  | 0, x, y, i, sx, sy, h, j => by rw [mA, iX]
  | n + 1, x, y, i, sx, sy, h, j => by
    have h1 := lh sx (fun c d => (h c d).1)
    have t := lh sy (fun c d => (j c d).1)
    obtain ⟨p, r, sp, mp, u⟩ := vP a ha y (by omega) b.Name
    obtain ⟨q, s, sq, k, v⟩ := vP b g x (by omega) a.Name
    have l : ∀ c ∈ x, c ∈ p := fun c d => (mp c).2 (h c d)
    have m : ∀ c ∈ y, c ∈ q := fun c d => (k c).2 (j c d)
    rw [mA, iX, DI a ha y (by omega), DI b g x (by omega), r, s]
    simp only [Option.bind_some]
    rw [D6 sx sp l, D6 sy sq m]
    simp only [Option.bind_some]
    have ih := BN a b ha g la lb n p q (IntKind.i64.wrap (i + 1)) sp sq (fun c d => mP m ((mp c).1 d)) (fun c d => mP l ((k c).1 d))
    rw [ih]
    have d1 : ((p.length : Int) == (x.length : Int)) = decide (p.length = x.length) := by
      rw [Bool.eq_iff_iff, beq_iff_eq, decide_eq_true_eq]; omega
    have d2 : ((q.length : Int) == (y.length : Int)) = decide (q.length = y.length) := by
      rw [Bool.eq_iff_iff, beq_iff_eq, decide_eq_true_eq]; omega
    rw [d1, d2]
theorem J5 (a b : cR) (ha : PB a) (d : PB b) (la : a.aT.length ≤ 30000) (lb : b.aT.length ≤ 30000) : wY a b = qX a b :=
  BN a b ha d la lb bL [] [] 0 gu.nil gu.nil (by simp) (by simp)
theorem AH (b : List aB) : ∀ (l acc : List aB), acc.length + l.length ≤ 1000000 → kq b l acc = some (acc ++ l.filter (eQ bT b))
  | [], acc, _ => by rw [kq, List.filter_nil, List.append_nil]
  | x :: l, acc, h => by
    rw [List.length_cons] at h
    rw [kq, zB, Option.bind_some, List.filter_cons]
    cases eQ bT b x
    · simp only [Bool.false_eq_true, if_false]
      exact AH b l acc (by omega)
    · simp only [if_true]
      rw [eX (by simp; omega) (by simp; omega), Option.bind_some, AH b l _ (by simp; omega)]
      simp
theorem Je (a b : List aB) (h : a.length ≤ 1000000) : qf a b = some (a.filter (eQ bT b)) := by
  unfold qf
  rw [AH b a [] (by simpa using h), List.nil_append]
theorem zj (b : List aB) : ∀ (l acc : List aB), acc.length + l.length ≤ 1000000 → jL b l acc = some (acc ++ l.filter fun c => !eQ bT b c)
  | [], acc, _ => by rw [jL, List.filter_nil, List.append_nil]
  | x :: l, acc, h => by
    rw [List.length_cons] at h
    rw [jL, zB, Option.bind_some, List.filter_cons]
    cases eQ bT b x
    · simp only [Bool.not_false, if_true]
      rw [eX (by simp; omega) (by simp; omega), Option.bind_some, zj b l _ (by simp; omega)]
      simp
    · simp only [Bool.not_true, Bool.false_eq_true, if_false]
      exact zj b l acc (by omega)
theorem HM (a b : List aB) (h : a.length ≤ 1000000) : pk a b = some (a.filter fun c => !eQ bT b c) := by
  unfold pk
  rw [zj b a [] (by simpa using h), List.nil_append]
theorem Hs (p : cR) (hp : p.aT.length ≤ 600000) : qU p = nU p := by
  have h1 : ∀ (l : List cI) (acc : List aB), acc.length + l.length ≤ 1000000000 → mT l acc = nT (acc ++ l.map (·.Signed.aB)) ∧ iW l acc = nR (acc ++ l.map (·.Signed.aB)) := by
    intro l
    induction l with
    | nil => intro acc _; rw [mT, iW, List.map_nil, List.append_nil, gi, gi]; exact ⟨rfl, rfl⟩
    | cons x l ih =>
      intro acc h
      rw [List.length_cons] at h
      rw [mT, iW, eX (by simp; omega) (by simp; omega), Option.bind_some, Option.bind_some]
      have := ih (acc ++ [x.Signed.aB]) (by simp; omega)
      simpa using this
  unfold qU nU
  obtain ⟨a, b⟩ := h1 p.aT [] (by simp; omega)
  rw [a, b, List.nil_append]
  obtain ⟨s, e, h⟩ := Gg (p.aT.map (·.Signed.aB)) (by simp; omega)
  obtain ⟨t, d, g⟩ := Cp (p.aT.map (·.Signed.aB)) (by simp; omega)
  rw [e, d, oI.unique vB g h]
theorem CG (p : fL) (ha : PB p.aC) (a : PB p.Client) (la : p.aC.aT.length ≤ 30000) (lb : p.Client.aT.length ≤ 30000) : ∀ (n : Nat) (x y : List aB), gu x → gu y → x.length ≤ 30000 → y.length ≤ 30000 →
    jK p n x y = gT p n x y
  | 0, x, y, sx, sy, lx, ly => by rw [jK, gT]
  | n + 1, x, y, sx, sy, lx, ly => by
    obtain ⟨f, d, w, u, r⟩ := vP p.aC ha y (by omega) p.Client.Name
    obtain ⟨g, i, sg, v, t⟩ := vP p.Client a x (by omega) p.aC.Name
    have l := List.length_filter_le (eQ bT f) x
    have m := List.length_filter_le (eQ bT g) y
    rw [jK, gT, DI p.aC ha y (by omega), DI p.Client a x (by omega), d, i]
    simp only [Option.bind_some]
    rw [Je x f (by omega), Je y g (by omega), xG x f (by omega), xG y g (by omega)]
    simp only [Option.bind_some]
    rw [CG p ha a la lb n _ _ (sx.filter _) (sy.filter _) (by omega) (by omega)]
    have key : ∀ (s : List aB) (q : aB → Bool), fX (s.filter q) s = some (((s.filter q).length : Int) == (s.length : Int)) := by
      intro s q
      obtain ⟨b, e, a⟩ := Jf (s.filter q) s
      rw [e]; congr 1
      rw [Bool.eq_iff_iff, a, beq_iff_eq]
      constructor
      · intro h; rw [h]
      · intro h; exact (List.filter_sublist).eq_of_length (by omega)
    rw [key, key]
    simp only [Option.bind_some]
    by_cases c1 : (x.filter (eQ bT f)).length = x.length
    · have j : (x.filter (eQ bT f)) = x := (List.filter_sublist).eq_of_length c1
      by_cases c2 : (y.filter (eQ bT g)).length = y.length
      · have k : (y.filter (eQ bT g)) = y := (List.filter_sublist).eq_of_length c2
        rw [j, k]
      · have : (((y.filter (eQ bT g)).length : Int) == (y.length : Int)) = false := by rw [beq_eq_false_iff_ne]; omega
        rw [c1, this]
        simp
    · have : (((x.filter (eQ bT f)).length : Int) == (x.length : Int)) = false := by rw [beq_eq_false_iff_ne]; omega
      rw [this]
      simp
theorem Hn (p : fL) (ha : PB p.aC) (g : PB p.Client) (la : p.aC.aT.length ≤ 30000) (lb : p.Client.aT.length ≤ 30000) : ph p = iS p := by
  unfold ph iS
  rw [Hs p.aC (by omega), Hs p.Client (by omega)]
  obtain ⟨x, b, sx, h⟩ := zq p.aC (by omega)
  obtain ⟨y, d, sy, i⟩ := zq p.Client (by omega)
  have j := lh sx (fun c a => ((h c).1 a).1)
  have k := lh sy (fun c a => ((i c).1 a).1)
  rw [b, d, Option.bind_some, Option.bind_some, Option.bind_some, Option.bind_some]
  exact CG p ha g la lb bL x y sx sy (by omega) (by omega)
theorem Lh (p : fL) (ha : PB p.aC) (d : PB p.Client) (la : p.aC.aT.length ≤ 30000) (lb : p.Client.aT.length ≤ 30000) : rq p = kK p := by
  obtain ⟨a, b, x, y, j, h, g, i, l, k⟩ := xz p ha d (by omega) (by omega)
  have i1 := g.la
  have i2 := g.lb
  rw [k]
  unfold rq
  rw [Hn p ha d la lb, h, Option.bind_some, J5 _ _ ha d la lb, i, Option.bind_some]
  simp only
  rw [HM a x (by omega), Option.bind_some, HM b y (by omega), Option.bind_some]
end Go.Proofs.YtmlncblocfcmiaaGreat
namespace Go.Proofs.YtmlncblocfcmiaaGreat
open Go.RowKit
mutual
def sM : Formula → Nat
  | ⟨_, _, r, ks⟩ => 1 + r.aC.size + r.aJ.size + szFL ks
def szFL : List Formula → Nat
  | [] => 0
  | k :: ks => sM k + szFL ks
end
theorem EY (f : Formula) : sM f = 1 + f.aA.aC.size + f.aA.aJ.size + szFL f.Kids := by cases f; rw [sM]
theorem vK : ∀ f : Formula, cD f ≤ sM f := by
  refine D4 fun f ih => ?_
  have : ∀ ks : List Formula, (∀ k ∈ ks, cD k ≤ sM k) → nodesL ks ≤ szFL ks := by
    intro ks
    induction ks with
    | nil => intro _; rw [nodesL]; omega
    | cons k ks a =>
      intro h
      have := a (fun x b => h x (by simp [b]))
      have := h k (by simp)
      rw [nodesL, szFL]; omega
  have := this f.Kids ih
  rw [gC, EY]; omega
def rz : List aB → Nat
  | [] => 0
  | c :: l => 20 + rh c + rz l
theorem g5 : ∀ (l : List aB) (n : Int), 0 ≤ n → n + (rz l : Int) ≤ 4000000000000000000 → kW l n = some (n + (rz l : Int))
  | [], n, _, _ => by rw [kW, rz]; simp
  | c :: l, n, b, a => by
    have e : rh c = c.Head.aC.size + c.Head.aJ.size + c.cH.size + c.B.aC.size + c.B.aJ.size + c.C.aC.size + c.C.aJ.size + c.cO.size := rfl
    rw [rz] at a
    rw [kW]
    rw [cP (x := 20 + (c.Head.aC.size : Int)) (by omega) (by omega), cP (x := 20 + (c.Head.aC.size : Int) + (c.Head.aJ.size : Int)) (by omega) (by omega), cP (x := 20 + (c.Head.aC.size : Int) + (c.Head.aJ.size : Int) + (c.cH.size : Int)) (by omega) (by omega), cP (x := 20 + (c.Head.aC.size : Int) + (c.Head.aJ.size : Int) + (c.cH.size : Int) + (c.B.aC.size : Int)) (by omega) (by omega), cP (x := 20 + (c.Head.aC.size : Int) + (c.Head.aJ.size : Int) + (c.cH.size : Int) + (c.B.aC.size : Int) + (c.B.aJ.size : Int)) (by omega) (by omega), cP (x := 20 + (c.Head.aC.size : Int) + (c.Head.aJ.size : Int) + (c.cH.size : Int) + (c.B.aC.size : Int) + (c.B.aJ.size : Int) + (c.C.aC.size : Int)) (by omega) (by omega), cP (x := 20 + (c.Head.aC.size : Int) + (c.Head.aJ.size : Int) + (c.cH.size : Int) + (c.B.aC.size : Int) + (c.B.aJ.size : Int) + (c.C.aC.size : Int) + (c.C.aJ.size : Int)) (by omega) (by omega), cP (x := 20 + (c.Head.aC.size : Int) + (c.Head.aJ.size : Int) + (c.cH.size : Int) + (c.B.aC.size : Int) + (c.B.aJ.size : Int) + (c.C.aC.size : Int) + (c.C.aJ.size : Int) + (c.cO.size : Int)) (by omega) (by omega), cP (by omega) (by omega)]
    rw [g5 l _ (by omega) (by omega), rz]
    congr 1; omega
theorem Nh : ∀ (n : Nat) (l : List Formula), deepL l < n → szFL l ≤ 1000000000000 → ∃ r : Int, gZ n l = some r ∧ 0 ≤ r ∧ r ≤ (szFL l : Int) := by
  intro n
  induction n with
  | zero => intro l h; omega
  | succ n ih =>
    intro l h g
    rw [gZ]
    unfold pW
    have key : ∀ (l : List Formula) (x : Int), deepL l < n + 1 → 0 ≤ x → x + (szFL l : Int) ≤ 1000000000000 → ∃ r : Int, lC (gZ n) l x = some r ∧ 0 ≤ r ∧ r ≤ x + (szFL l : Int) := by
      intro l
      induction l with
      | nil => intro x _ i _; exact ⟨x, by rw [lC], i, by rw [szFL]; simp⟩
      | cons k l b =>
        intro x h i g
        rw [deepL] at h
        rw [szFL] at g
        have hk := EY k
        have := fg k
        obtain ⟨r, e, h1, j⟩ := ih k.Kids (by omega) (by omega)
        rw [lC, e, Option.bind_some]
        have q : 0 ≤ Int.tdiv ((k.aA.aC.size : Int) + (k.aA.aJ.size : Int)) 16 ∧ Int.tdiv ((k.aA.aC.size : Int) + (k.aA.aJ.size : Int)) 16 ≤ (k.aA.aC.size : Int) + (k.aA.aJ.size : Int) := by
          rw [Int.tdiv_eq_ediv_of_nonneg (by omega)]
          omega
        rw [cP (x := (k.aA.aC.size : Int) + (k.aA.aJ.size : Int)) (by omega) (by omega)]
        generalize Int.tdiv ((k.aA.aC.size : Int) + (k.aA.aJ.size : Int)) 16 = d at *
        rw [cP (x := d) (by omega) (by omega), cP (x := 1 + d) (by omega) (by omega), cP (x := 1 + d + r) (by omega) (by omega), cP (x := x + (1 + d + r)) (by omega) (by omega)]
        obtain ⟨p, e', a, m⟩ := b (x + (1 + d + r)) (by omega) (by omega) (by omega)
        exact ⟨p, e', a, by rw [szFL]; omega⟩
    obtain ⟨r, e, h1, j⟩ := key l 0 h (by omega) (by omega)
    exact ⟨r, e, h1, by omega⟩
theorem CD (f : Formula) (h : sM f ≤ 50000000) : ∃ r : Int, gZ bL [f] = some r ∧ 0 ≤ r ∧ r ≤ (sM f : Int) := by
  have h1 := vK f
  have d := qp f
  obtain ⟨r, e, a, b⟩ := Nh bL [f] (by rw [deepL, deepL, eG]; omega) (by rw [szFL, szFL]; omega)
  refine ⟨r, e, a, ?_⟩
  rw [szFL, szFL] at b; omega
theorem g6 (s : Signed) (h : rh s.aB + s.Tag.length ≤ 1000000000) : nC [] [s] = some (20 + (rh s.aB : Int) + (s.Tag.length : Int)) := by
  unfold nC
  rw [jJ, lm]
  have := g5 [s.aB] 0 (by omega) (by rw [rz, rz]; omega)
  rw [show pc [s.aB] = _ from this, Option.bind_some, lm, rz, rz]
  rw [cP (x := 0 + ((20 + rh s.aB + 0 : Nat) : Int) + (s.Tag.length : Int)) (by omega) (by omega), cP (by omega) (by omega)]
  simp only [Option.bind_some]
  congr 1; omega
def vW : List cI → Nat
  | [] => 0
  | x :: l => 20 + rh x.Signed.aB + x.Signed.Tag.length + 20 * sM x.aI + vW l
def uT : List gL → Nat
  | [] => 0
  | a :: l => a.aA.aC.size + a.aA.aJ.size + 20 * sM a.aI + rz a.eS + uT l
def Dk (p : cR) : Nat := p.Name.size + vW p.aT + uT p.bP
theorem G1 : ∀ (l : List gL) (x : Int), 0 ≤ x → x + (uT l : Int) ≤ 1000000000 → ∃ r : Int, lB l x = some r ∧ x ≤ r ∧ r ≤ x + (uT l : Int)
  | [], x, _, _ => ⟨x, by rw [lB], by omega, by rw [uT]; omega⟩
  | a :: l, x, i, h => by
    rw [uT] at h
    obtain ⟨r, e, h1, j⟩ := CD a.aI (by omega)
    have b := g5 a.eS 0 (by omega) (by omega)
    rw [lB, e, Option.bind_some, show pc a.eS = _ from b, Option.bind_some]
    rw [cP (x := (a.aA.aC.size : Int) + (a.aA.aJ.size : Int)) (by omega) (by omega), cP (x := 20 * r) (by omega) (by omega), cP (x := (a.aA.aC.size : Int) + (a.aA.aJ.size : Int) + 20 * r) (by omega) (by omega), cP (x := (a.aA.aC.size : Int) + (a.aA.aJ.size : Int) + 20 * r + (0 + (rz a.eS : Int))) (by omega) (by omega), cP (by omega) (by omega)]
    obtain ⟨d, e', g, a2⟩ := G1 l (x + ((a.aA.aC.size : Int) + (a.aA.aJ.size : Int) + 20 * r + (0 + (rz a.eS : Int)))) (by omega) (by omega)
    exact ⟨d, e', by omega, by rw [uT]; omega⟩
theorem MH (p : cR) (g : Dk p ≤ 1000000000) : ∃ r : Int, pb p = some r ∧ 20 * (p.aT.length : Int) ≤ r ∧ r ≤ (Dk p : Int) := by
  unfold Dk at g
  have key : ∀ (l : List cI) (x : Int), 0 ≤ x → x + (vW l : Int) + (uT p.bP : Int) ≤ 1000000000 → ∃ r : Int, kZ p l x = some r ∧ x + 20 * (l.length : Int) ≤ r ∧ r ≤ x + (vW l : Int) + (uT p.bP : Int) := by
    intro l
    induction l with
    | nil =>
      intro x d h
      rw [vW] at h
      obtain ⟨r, e, a, b⟩ := G1 p.bP x d (by omega)
      exact ⟨r, by rw [kZ, e]; rfl, by simp; omega, by rw [vW]; omega⟩
    | cons y l ih =>
      intro x d h
      rw [vW] at h
      obtain ⟨r, e, h1, j⟩ := CD y.aI (by omega)
      rw [kZ, g6 y.Signed (by omega)]
      simp only [Option.bind_some]
      rw [e, Option.bind_some]
      rw [cP (x := 20 * r) (by omega) (by omega), cP (x := 20 + (rh y.Signed.aB : Int) + (y.Signed.Tag.length : Int) + 20 * r) (by omega) (by omega), cP (by omega) (by omega)]
      obtain ⟨i, e', a, b⟩ := ih (x + (20 + (rh y.Signed.aB : Int) + (y.Signed.Tag.length : Int) + 20 * r)) (by omega) (by omega)
      exact ⟨i, e', by rw [List.length_cons]; omega, by rw [vW]; omega⟩
  obtain ⟨r, e, a, b⟩ := key p.aT (p.Name.size : Int) (by omega) (by omega)
  unfold pb
  exact ⟨r, e, by omega, by unfold Dk; omega⟩
end Go.Proofs.YtmlncblocfcmiaaGreat
namespace Go.Proofs.YtmlncblocfcmiaaGreat
open Go.RowKit
def wU : List Key → Nat
  | [] => 0
  | k :: l => 10 + k.cH.size + k.Key.length + wU l
theorem Mv : ∀ (ks : List Key) (x : Int), 0 ≤ x → x + (wU ks : Int) ≤ 2000000000 → jJ [] ks x = some (x + (wU ks : Int))
  | [], x, _, _ => by rw [jJ, lm, wU]; simp
  | k :: ks, x, a, h => by
    rw [wU] at h
    rw [jJ, cP (x := 10 + (k.cH.size : Int)) (by omega) (by omega), cP (x := 10 + (k.cH.size : Int) + (k.Key.length : Int)) (by omega) (by omega), cP (by omega) (by omega), Mv ks _ (by omega) (by omega), wU]
    congr 1; omega
structure PQ (p : fL) : Prop extends PP p where
  go : Dk p.aC ≤ 1000000000
  gc : Dk p.Client ≤ 1000000000
  fs : sM p.Formula ≤ 50000000
  ks : wU p.Keys ≤ 1000000000
theorem M8 (p : fL) (hp : PQ p) : ∃ r : Int, rf p = some r ∧ 20 * (p.aC.aT.length : Int) + 20 * (p.Client.aT.length : Int) ≤ r := by
  have d := hp.go
  have b := hp.gc
  have n := hp.ks
  have a := hp.fs
  obtain ⟨g, j, q, s⟩ := MH p.aC d
  obtain ⟨h, k, a2, t⟩ := MH p.Client b
  obtain ⟨i, l, a3, u⟩ := CD p.Formula a
  have m := Mv p.Keys 0 (by omega) (by omega)
  unfold rf
  rw [j, Option.bind_some, k, Option.bind_some]
  simp only [Option.bind_some]
  rw [l, Option.bind_some, show nC p.Keys [] = _ from m, Option.bind_some]
  rw [cP (x := g + h) (by omega) (by omega), cP (x := 20 * i) (by omega) (by omega), cP (x := g + h + 20 * i) (by omega) (by omega), cP (by omega) (by omega)]
  exact ⟨_, rfl, by omega⟩
theorem Ba (q : pn = some true) (p : fL) (hp : PQ p) : nH p = some true := by
  obtain ⟨g, n, t⟩ := M8 p hp
  unfold nH
  rw [q, n]
  simp only [Option.bind_some, Bool.not_true, Bool.false_eq_true, if_false]
  by_cases h : g > 6000
  · simp only [h, decide_true, if_true]
  · simp only [h, decide_false, Bool.false_eq_true, if_false]
    have ha := hp.o.toPB
    have d := hp.c.toPB
    obtain ⟨a, b, x, y, j, l, k, r, s, i⟩ := xz p ha d hp.lo hp.lc
    have i1 := List.length_filter_le (fun c => !eQ bT x c) a
    have i2 := List.length_filter_le (fun c => !eQ bT y c) b
    have j1 := k.la
    have j2 := k.lb
    have m : jz p = some ((IntKind.i64.wrap (((a.filter fun c => !eQ bT x c).length : Int) + ((b.filter fun c => !eQ bT y c).length : Int))) == 0) := by
      unfold jz
      rw [i, Option.bind_some]
    rw [Hn p ha d (by omega) (by omega), Lh p ha d (by omega) (by omega), l, i, m]
    simp only [Option.bind_some]
    rw [DJ, DJ, DJ, DJ]
    simp only [Option.bind_some, if_true, beq_self_eq_true]
end Go.Proofs.YtmlncblocfcmiaaGreat
namespace Go.Proofs.YtmlncblocfcmiaaGreat.Lf
open Go.ChangeShapes Go.WideShapes Go.ChangeAt Go.RowKit
open Go.Proofs.YtmlncblocfcmiaaGreat (Rows.uptoBulk Rows.uptoBulkAll Rows.uptoSmall)
theorem Ku {H : Type} (d : DataW H) : 1 ≤ Rows.uptoBulk d := by
  cases d with
  | lit l => cases l <;> simp [Rows.uptoBulk]
  | nil => simp [Rows.uptoBulk]
  | ptr d => simp [Rows.uptoBulk]
  | slice a spare => simp [Rows.uptoBulk]
  | agg parts => simp [Rows.uptoBulk]
  | iface t d => simp [Rows.uptoBulk]
  | map entries => simp [Rows.uptoBulk]
  | held h => simp [Rows.uptoBulk]
def BH {α : Type} (P : Program) (t : TypeId) (enc : α → List Value) (sz : α → Nat) : Prop :=
  ∀ (H : Type) (b : TypeId × Value → H) (W : World) (base : Nat) (sp : Nat → Bool) (d : Bool) (fuel : Nat) (cs : List Value) (x : DataW H × List MemPlace),
    DataW.trod b P W base sp d fuel t cs = some x → ∃ a : α, cs = enc a ∧ sz a ≤ Rows.uptoBulk x.1
theorem GS {P : Program} {t : TypeId} (a : P.underlying t = some .string) : BH P t (fun s : ByteArray => [.string s]) (fun s => s.size) := by
  intro H b W base sp d fuel cs x h
  obtain ⟨s, rfl, rfl, _⟩ := DataW.trod_string a h
  refine ⟨s, rfl, ?_⟩
  have e : s.data.toList.length = s.size := by rw [Array.length_toList]; rfl
  simp [Rows.uptoBulk, e]
theorem JS {P : Program} {t : TypeId} {k : IntKind} (a : P.underlying t = some (.int k)) : BH P t (fun n : Int => [.int k n]) (fun _ => 0) := by
  intro H b W base sp d fuel cs x h
  obtain ⟨n, rfl, rfl, _⟩ := DataW.trod_int a h
  exact ⟨n, rfl, Nat.zero_le _⟩
theorem Ks {α : Type} {n : Nat} {p : Nat → α → Prop} (h : ∀ i, i < n → ∃ x, p i x) : ∃ l : List α, l.length = n ∧ ∀ i x, l[i]? = some x → p i x := by
  induction n with
  | zero => exact ⟨[], rfl, by simp⟩
  | succ n ih =>
    obtain ⟨l, h1, d⟩ := ih fun i b => h i (by omega)
    obtain ⟨x, j⟩ := h n (by omega)
    refine ⟨l ++ [x], by simp [h1], fun i y a => ?_⟩
    by_cases b : i < l.length
    · rw [List.getElem?_append_left b] at a
      exact d i y a
    · rw [List.getElem?_append_right (by omega)] at a
      have : i - l.length = 0 := by
        cases g : i - l.length with
        | zero => rfl
        | succ m => rw [g] at a; simp at a
      rw [this] at a
      have e : i = n := by omega
      simp at a
      subst a; rw [e]; exact j
theorem EE {W : World} {a : Addr} {v : Value} (h : W.cell? a = some v) : ∃ cs T fr, W.heap[a.block]? = some (.cells cs T fr) ∧ a.spot = none ∧ cs[a.off]? = some v := by
  unfold World.cell? at h
  split at h
  · rename_i c T fr d
    by_cases b : a.spot.isSome
    · simp [b] at h
    · simp only [b] at h
      exact ⟨c, T, fr, d, by simpa using b, by simpa using h⟩
  · cases h
theorem Ex.below {dd : Bool} {W W' : World} (h : Ex dd W W') : Below W.heap.size W W' := ⟨h.os, h.tape, h.output, h.size, h.eP⟩
theorem xR {H : Type} {k : TypeId × Value → H} {P : Program} (m : laidOutB P = true) {W W' : World} {b : Nat → Bool} :
    ∀ {i : List TypeId} {vs : List Value} {ds : List (DataW H)} {g : List MemPlace}, (∀ t ∈ i, P.readableRec t = true ∧ t < P.types.size) →
      DataW.TrodAll k P W 0 (fun _ => true) true i vs ds g → (∀ p ∈ g, W.sameAt W' p) → (∀ p ∈ g, b p.block = true) → DataW.TrodAll k P W' 0 b true i vs ds g
  | [], _, _, _, _, h, _, _ => by
    obtain ⟨rfl, rfl, rfl⟩ := trodAll_nil h
    exact trodAll_mk0
  | t :: i, _, _, _, j, h, h1, l => by
    obtain ⟨v, vs, d, ds, p, q, rfl, rfl, rfl, n, r⟩ := trodAll_cons h
    exact trodAll_cons_mk (WideElems.Trod_stays m (j t (by simp)).1 (j t (by simp)).2 n (fun x a => h1 x (by simp [a])) (fun x a => l x (by simp [a])))
      (xR m (fun u hu => j u (by simp [hu])) r (fun x a => h1 x (by simp [a])) (fun x a => l x (by simp [a])))
theorem Gv {H : Type} {enc : TypeId × Value → H} {P : Program} (J : laidOutB P = true) {f : Func} {s : ChangeSpec} {apart fresh handsOn again : Bool} {W W' : World} {args : Array Value} {v : Value} {ds gs : List (DataW H)} {before : List MemPlace} (M : ∀ t ∈ f.params.toList, P.readableRec t = true ∧ t < P.types.size) (m : s.vars = []) (u : DataW.Whole enc P f.params.toList s.vars apart W args.toList ds gs before) {dd : Bool} (E : Ex dd W W') (a : ∀ (b : Nat) (sp : Nat → Bool) (I : Bool), DataW.TrodAll enc P W' b sp I f.resultTypes.toList (v.resultList f.resultTypes.size) (s.fn H (ds ++ gs)).results []) (d : (s.fn H (ds ++ gs)).args = ds) (h : (s.fn H (ds ++ gs)).vars = []) (A : ∀ (j : Nat) (t : TypeId) (r : Value), f.resultTypes[j]? = some t → (v.resultList f.resultTypes.size)[j]? = some r → Value.okWide P W' .any 0 t r) :
    s.post enc P f apart fresh handsOn again W args v W' := by
  have g := u.lt
  have hold : ∀ p ∈ before, (fun b => decide (b < W.heap.size)) p.block = true := fun p hp => by simpa using g p hp
  have z := Ex.below E
  have y := u
  obtain ⟨p, q, G, F, k, O, L⟩ := u
  rw [m] at F
  obtain ⟨rfl, rfl⟩ := trodVars_none F
  rw [List.append_nil] at k
  subst k
  have l : ∀ sp : Nat → Bool, (∀ p ∈ before, sp p.block = true) → DataW.TrodAll enc P W' 0 sp true f.params.toList args.toList (s.fn H (ds ++ [])).args before := fun sp D => by
    rw [d]
    exact xR J M G (fun x E => z.same (g x E)) D
  have n : ∀ sp : Nat → Bool, DataW.TrodVars enc P W' sp s.vars (s.fn H (ds ++ [])).vars [] := fun sp => by
    rw [h, m]; rfl
  refine ⟨ds, [], before, [], before, [], y, a _ _ _, l _ hold, n _, World.keptBut_mono (fun p hp => ⟨hp, ?_⟩) (z.frame (· ∈ before)), fun _ => ?_⟩
  · exact Or.inr (Or.inl hp)
  · refine ⟨A, _, _, ([] ++ before) ++ [], ⟨[] ++ before, [], trodAll_append (l _ (fun _ _ => rfl)) (a _ _ _), n _, rfl, ?_, ?_⟩, ?_⟩
    · intro b off hp
      have i : MemPlace.cell b off ∈ before := by simpa using hp
      rw [World.frozen?_of_block (w := W) (z.block b (g _ i))]
      exact O b off i
    · intro ha
      simpa using L ha
    · intro p hp _
      simpa using hp
end Go.Proofs.YtmlncblocfcmiaaGreat.Lf
namespace Go.Proofs.YtmlncblocfcmiaaGreat.Lf
open Go.ChangeShapes Go.WideShapes Go.ChangeAt Go.RowKit
open Go.Proofs.YtmlncblocfcmiaaGreat (Rows.uptoBulk Rows.uptoBulkAll Rows.uptoSmall)
def yG {α : Type} (P : Program) (t : TypeId) (R : jq α) (sz : α → Nat) : Prop :=
  ∀ (H : Type) (b : TypeId × Value → H) (W : World) (base : Nat) (sp : Nat → Bool) (d : Bool) (fuel : Nat) (cs : List Value) (x : DataW H × List MemPlace),
    DataW.trod b P W base sp d fuel t cs = some x → ∃ a : α, R (hp W) cs a ∧ sz a ≤ Rows.uptoBulk x.1
theorem BH.rel {α : Type} {P : Program} {t : TypeId} {enc : α → List Value} {sz : α → Nat} (h : BH P t enc sz) : yG P t (Pl enc) sz := fun H a W base sp b fuel cs x d => h H a W base sp b fuel cs x d
end Go.Proofs.YtmlncblocfcmiaaGreat.Lf
namespace Go.Proofs.YtmlncblocfcmiaaGreat.Lf
open Go.ChangeShapes Go.WideShapes Go.ChangeAt Go.RowKit
open Go.Proofs.YtmlncblocfcmiaaGreat (Rows.uptoBulk Rows.uptoBulkAll Rows.uptoSmall)
theorem Aj {H : Type} : ∀ l : List (DataW H), Rows.uptoBulkAll l = (l.map Rows.uptoBulk).sum
  | [] => by simp [Rows.uptoBulkAll]
  | d :: l => by simp [Rows.uptoBulkAll, Aj l]
theorem HE {α : Type} (g : α → Nat) : ∀ (n : Nat) (f : Nat → Nat) {l : List α}, l.length = n → (∀ i x, l[i]? = some x → g x ≤ f i) → (l.map g).sum ≤ ((List.range n).map f).sum
  | 0, f, l, b, h => by
    obtain rfl := List.length_eq_zero_iff.1 b
    simp
  | n + 1, f, [], b, h => by cases b
  | n + 1, f, a :: l, b, h => by
    rw [List.range_succ_eq_map, List.map_cons, List.map_cons, List.sum_cons, List.sum_cons, List.map_map]
    have h1 := h 0 a rfl
    have j := HE g n (f ∘ Nat.succ) (l := l) (by simpa using b) (fun i x d => h (i + 1) x (by simpa using d))
    omega
def lK {α : Type} (sz : α → Nat) (l : List α) : Nat := (l.map fun a => max 1 (sz a)).sum
theorem wG {α : Type} (sz : α → Nat) : ∀ l : List α, l.length ≤ lK sz l
  | [] => Nat.le_refl _
  | a :: l => by have := wG sz l; simp only [lK, List.map_cons, List.sum_cons, List.length_cons] at this ⊢; omega
theorem AZ {α : Type} {sz : α → Nat} : ∀ {l : List α} {a : α}, a ∈ l → sz a ≤ lK sz l
  | b :: l, a, h => by
    simp only [lK, List.map_cons, List.sum_cons]
    rcases List.mem_cons.1 h with rfl | h
    · omega
    · have := AZ (sz := sz) h; simp only [lK] at this; omega
theorem Ab {α : Type} {P : Program} {t e : TypeId} {k : Nat} {R : jq α} {sz : α → Nat} (hk : P.cellsOf e = k) (L : 0 < k) (ht : P.underlying t = some (.slice e)) {H : Type} {Y : TypeId × Value → H} {W : World} {base : Nat} {sp : Nat → Bool} {held : Bool} {fuel : Nat} {cs : List Value} {x : DataW H × List MemPlace} (hd : ∀ (fuel : Nat) (cs : List Value) (y : DataW H × List MemPlace), DataW.trod Y P W base sp held fuel e cs = some y → SizeOf.sizeOf y.1 < SizeOf.sizeOf x.1 → ∃ a : α, R (hp W) cs a ∧ sz a ≤ Rows.uptoBulk y.1) (hf : DataW.trod Y P W base sp held fuel t cs = some x) :
    ∃ v l, cs = [v] ∧ Sl R k (hp W) v l ∧ lK sz l ≤ Rows.uptoBulk x.1 := by
  rcases Go.Deep.open_slice ht hf with ⟨rfl, rfl⟩ | ⟨a, ln, cp, m, n, D, Q, rfl, hb, hl, hm, O, rfl, I⟩
  · exact ⟨_, [], rfl, ⟨none, 0, rfl, Nat.le_refl _, Nat.zero_le _, fun h => absurd h (Nat.lt_irrefl _)⟩, Nat.zero_le _⟩
  · have aa : ln ≤ m := by rw [O]; split <;> omega
    have hB : ((List.range ln).map fun i => Rows.uptoBulk (D i)).sum ≤ Rows.uptoBulk (DataW.slice ((List.range ln).map D) ((List.range (m - ln)).map fun j => D (ln + j))) := by
      simp only [Rows.uptoBulk]
      rw [Aj, List.map_map]
      have e : ((List.range ln).map fun i => Rows.uptoBulk (D i)) = (List.range ln).map (Rows.uptoBulk ∘ D) := rfl
      rw [e]
      omega
    have hS : ∀ i, i < ln → SizeOf.sizeOf (D i) < SizeOf.sizeOf (DataW.slice ((List.range ln).map D) ((List.range (m - ln)).map fun j => D (ln + j))) := fun i J => by
      have := List.sizeOf_lt_of_mem (List.mem_map.2 ⟨i, List.mem_range.2 J, rfl⟩ : D i ∈ (List.range ln).map D)
      rw [DataW.slice.sizeOf_spec]; omega
    simp only at hd ⊢
    generalize Rows.uptoBulk (DataW.slice ((List.range ln).map D) ((List.range (m - ln)).map fun j => D (ln + j))) = B at hB
    obtain ⟨l, M, s⟩ := Ks (α := α) (n := ln) (p := fun i x => ∃ b, W.cells? base (a.add (i * k)) k = some b ∧ R (hp W) b x ∧ sz x ≤ Rows.uptoBulk (D i)) fun i J => by
      obtain ⟨b, h1, A⟩ := I i (by omega)
      obtain ⟨x, hR, E⟩ := hd _ _ _ A (hS i J)
      rw [hk] at h1
      exact ⟨x, b, h1, hR, E⟩
    subst M
    refine ⟨_, l, rfl, ⟨some a, cp, rfl, hl, hm, fun h0 => ?_⟩, ?_⟩
    · have d : ∀ i x, l[i]? = some x → ∃ b, R (hp W) b x ∧ b.length = k ∧ ∀ j, j < k → W.cell? ((a.add (i * k)).add j) = b[j]? := fun i x u =>
        let ⟨b, h1, A, _⟩ := s i x u
        let ⟨_, E, Z⟩ := World.cells?_some h1
        ⟨b, A, E, Z⟩
      obtain ⟨a6, _, Z, h5⟩ := d 0 l[0] (by simp [h0])
      have F := h5 0 L
      rw [Nat.zero_mul, List.getElem?_eq_getElem (by omega)] at F
      have e0 : (a.add 0).add 0 = a := rfl
      rw [e0] at F
      obtain ⟨cs, T, fr, G, h8, _⟩ := EE F
      obtain ⟨w, z, a1⟩ := a
      simp only at G h8
      subst h8
      refine ⟨w, z, cs, T, fr, rfl, G, fun i x u => ?_⟩
      obtain ⟨b, gR, g1, g2⟩ := d i x u
      refine ⟨b, g1, gR, fun j y hy => ?_⟩
      have hj : j < k := by
        rw [← g1]
        exact (List.getElem?_eq_some_iff.1 hy).1
      have h9 := g2 j hj
      rw [Go.Deep.add_add, hy] at h9
      obtain ⟨U, T', a7, g, a8, q⟩ := EE h9
      have r : (Addr.add ⟨w, z, none⟩ (i * k + j)).block = w ∧ (Addr.add ⟨w, z, none⟩ (i * k + j)).off = z + (i * k + j) := by
        unfold Addr.add
        split
        · rename_i hz
          rw [hz]; exact ⟨rfl, rfl⟩
        · exact ⟨rfl, rfl⟩
      rw [r.1, G] at g
      cases g
      rw [r.2, ← Nat.add_assoc] at q
      exact q
    · refine Nat.le_trans (HE _ _ _ rfl fun i x u => ?_) hB
      exact Nat.max_le.2 ⟨Ku _, (s i x u).elim fun _ h => h.2.2⟩
theorem mQ {α : Type} {P : Program} {t e : TypeId} {k : Nat} {R : jq α} {sz : α → Nat} (hk : P.cellsOf e = k) (a : 0 < k) (d : yG P e R sz) (i : P.underlying t = some (.slice e)) {H : Type} {b : TypeId × Value → H} {W : World} {base : Nat} {sp : Nat → Bool} {held : Bool} {fuel : Nat} {cs : List Value} {x : DataW H × List MemPlace} (g : DataW.trod b P W base sp held fuel t cs = some x) :
    ∃ v l, cs = [v] ∧ Sl R k (hp W) v l ∧ lK sz l ≤ Rows.uptoBulk x.1 := Ab hk a i (fun _ _ _ h _ => d _ _ _ _ _ _ _ _ _ h) g
end Go.Proofs.YtmlncblocfcmiaaGreat.Lf
namespace Go.Proofs.YtmlncblocfcmiaaGreat.Lf
open Go.ChangeShapes Go.WideShapes Go.ChangeAt Go.RowKit
open Go.Proofs.YtmlncblocfcmiaaGreat (Rows.uptoBulk Rows.uptoBulkAll Rows.uptoSmall)
def Fx {α : Type} (R : jq α) (Q : α → Prop) : jq α := fun μ ys x => R μ ys x ∧ Q x
theorem Sl.all {α : Type} {R : jq α} {Q : α → Prop} {k : Nat} {μ : bW} {v : Value} {l : List α} (h : Sl (Fx R Q) k μ v l) : Sl R k μ v l ∧ ∀ x ∈ l, Q x := by
  obtain ⟨A, c, rfl, h1, j, q⟩ := h
  cases l with
  | nil => exact ⟨⟨A, c, rfl, h1, j, fun h => absurd h (by simp)⟩, by simp⟩
  | cons a l =>
    obtain ⟨b, o, cs, T, fr, e, r, m⟩ := q (by simp)
    refine ⟨⟨A, c, rfl, h1, j, fun _ => ⟨b, o, cs, T, fr, e, r, fun i x g => ?_⟩⟩, fun x g => ?_⟩
    · obtain ⟨ys, n, d, p⟩ := m i x g
      exact ⟨ys, n, d.1, p⟩
    · obtain ⟨i, s⟩ := List.mem_iff_getElem?.1 g
      obtain ⟨ys, n, d, p⟩ := m i x s
      exact d.2
theorem J8 {P : Program} {t : TypeId} (a : P.underlying t = some (.int .u8)) : yG P t (Fx (Pl (dM .u8)) (fun x => 0 ≤ x ∧ x < 256)) (fun _ => 0) := by
  intro H b W base sp d fuel cs x h
  obtain ⟨n, rfl, rfl, hw⟩ := DataW.trod_int a h
  refine ⟨n, ⟨rfl, ?_⟩, Nat.zero_le _⟩
  simp [Lit.wf, IntKind.min, IntKind.max, IntKind.bits, IntKind.signed] at hw
  omega
end Go.Proofs.YtmlncblocfcmiaaGreat.Lf
namespace Go.Proofs.YtmlncblocfcmiaaGreat
set_option maxRecDepth 10000
open Go.ChangeShapes Go.WideShapes Go.ChangeAt Go.RowKit
open Go.Proofs.YtmlncblocfcmiaaGreat Go.Proofs.YtmlncblocfcmiaaGreat.Lf
theorem Ia : Tryz.prog.cellsOf 116 = 18 := by kernel_rfl
theorem Ly {α : Type} {l : List α} (h : l.length = 9) : ∃ a0 a a2 a3 a4 a5 b d g, l = [a0, a, a2, a3, a4, a5, b, d, g] := by
  match l, h with
  | [a0, a, a2, a3, a4, a5, b, d, g], _ => exact ⟨a0, a, a2, a3, a4, a5, b, d, g, rfl⟩
theorem Mu {α : Type} {l : List α} (h : l.length = 18) : ∃ a0 k a2 a3 a4 a5 m n p a9 a b a12 d g i j a17, l = [a0, k, a2, a3, a4, a5, m, n, p, a9, a, b, a12, d, g, i, j, a17] := by
  match l, h with
  | [a0, k, a2, a3, a4, a5, m, n, p, a9, a, b, a12, d, g, i, j, a17], _ => exact ⟨a0, k, a2, a3, a4, a5, m, n, p, a9, a, b, a12, d, g, i, j, a17, rfl⟩
theorem Iq : Tryz.prog.cellsOf 110 = 3 := by kernel_rfl
theorem Iy {α : Type} {l : List α} (h : l.length = 3) : ∃ a0 a a2, l = [a0, a, a2] := by
  match l, h with
  | [a0, a, a2], _ => exact ⟨a0, a, a2, rfl⟩
theorem yv : Tryz.prog.cellsOf 9 = 1 := by kernel_rfl
theorem AN : BH Tryz.prog 9 (fun s : ByteArray => [.string s]) (fun s => s.size) := GS Tryz.underlying9
theorem Ev : Tryz.prog.cellsOf 107 = 1 := by kernel_rfl
theorem Aq : Tryz.prog.cellsOf 138 = 15 := by kernel_rfl
theorem yO {α : Type} {l : List α} (h : l.length = 2) : ∃ a0 a, l = [a0, a] := by
  match l, h with
  | [a0, a], _ => exact ⟨a0, a, rfl⟩
theorem LR {α : Type} {l : List α} (h : l.length = 15) : ∃ a0 i a2 a3 a4 a5 j k m a9 a b a12 d g, l = [a0, i, a2, a3, a4, a5, j, k, m, a9, a, b, a12, d, g] := by
  match l, h with
  | [a0, i, a2, a3, a4, a5, j, k, m, a9, a, b, a12, d, g], _ => exact ⟨a0, i, a2, a3, a4, a5, j, k, m, a9, a, b, a12, d, g, rfl⟩
theorem Kg : Tryz.prog.cellsOf 56 = 10 := by kernel_rfl
theorem BY : Tryz.prog.cellsOf 53 = 9 := by kernel_rfl
theorem xE : BH Tryz.prog 3 (fun n : Int => [.int .i64 n]) (fun _ => 0) := JS Tryz.underlying3
theorem BB : Tryz.prog.cellsOf 3 = 1 := by kernel_rfl
theorem zk : Tryz.prog.cellsOf 28 = 2 := by kernel_rfl
def qZ (x : aA) : Nat := x.aC.size + x.aJ.size
theorem BG : BH Tryz.prog 28 aM qZ := by
  intro H g W base sp j fuel cs x h
  obtain ⟨xs, n, _, rfl, p, hlen, k⟩ := DataW.trod_struct Tryz.underlying28 h
  obtain ⟨r, s, rfl⟩ := yO hlen
  obtain ⟨a, c1, rfl⟩ := yO (p.trans zk)
  have i : DataW.trod g Tryz.prog W base sp j n 9 (([a, c1].drop 0).take (Tryz.prog.cellsOf 9)) = some r := k 0 _ rfl
  have h1 : DataW.trod g Tryz.prog W base sp j n 9 (([a, c1].drop 1).take (Tryz.prog.cellsOf 9)) = some s := k 1 _ rfl
  simp only [yv, List.drop, List.take] at i h1
  obtain ⟨q, b, l⟩ := AN _ _ _ _ _ _ _ _ _ i
  obtain ⟨s1, d, m⟩ := AN _ _ _ _ _ _ _ _ _ h1
  simp only [List.cons.injEq, and_true] at b d
  obtain rfl := b
  obtain rfl := d
  refine ⟨⟨q, s1⟩, rfl, ?_⟩
  simp only [List.map, Rows.uptoBulk, Rows.uptoBulkAll, qZ] at l m ⊢
  omega
theorem MU {α : Type} {l : List α} (h : l.length = 6) : ∃ a0 a a2 a3 a4 a5, l = [a0, a, a2, a3, a4, a5] := by
  match l, h with
  | [a0, a, a2, a3, a4, a5], _ => exact ⟨a0, a, a2, a3, a4, a5, rfl⟩
def ox (x : aB) : Nat := qZ x.Head + x.cH.size + qZ x.B + qZ x.C + x.cO.size
theorem Jk : BH Tryz.prog 53 aG ox := by
  intro H l W base sp m fuel cs x h
  obtain ⟨xs, n, _, rfl, M, hlen, p⟩ := DataW.trod_struct Tryz.underlying53 h
  obtain ⟨T, U, Y, Z, y4, y5, rfl⟩ := MU hlen
  obtain ⟨a, c1, c2, b, d, g, i, j, k, rfl⟩ := Ly (M.trans BY)
  have w : DataW.trod l Tryz.prog W base sp m n 3 (([a, c1, c2, b, d, g, i, j, k].drop 0).take (Tryz.prog.cellsOf 3)) = some T := p 0 _ rfl
  have h1 : DataW.trod l Tryz.prog W base sp m n 28 (([a, c1, c2, b, d, g, i, j, k].drop 1).take (Tryz.prog.cellsOf 28)) = some U := p 1 _ rfl
  have y : DataW.trod l Tryz.prog W base sp m n 9 (([a, c1, c2, b, d, g, i, j, k].drop 3).take (Tryz.prog.cellsOf 9)) = some Y := p 2 _ rfl
  have z : DataW.trod l Tryz.prog W base sp m n 28 (([a, c1, c2, b, d, g, i, j, k].drop 4).take (Tryz.prog.cellsOf 28)) = some Z := p 3 _ rfl
  have A : DataW.trod l Tryz.prog W base sp m n 28 (([a, c1, c2, b, d, g, i, j, k].drop 6).take (Tryz.prog.cellsOf 28)) = some y4 := p 4 _ rfl
  have D : DataW.trod l Tryz.prog W base sp m n 9 (([a, c1, c2, b, d, g, i, j, k].drop 8).take (Tryz.prog.cellsOf 9)) = some y5 := p 5 _ rfl
  simp only [zk, BB, yv, List.drop, List.take] at w h1 y z A D
  obtain ⟨O, q, E⟩ := xE _ _ _ _ _ _ _ _ _ w
  obtain ⟨s1, r, F⟩ := BG _ _ _ _ _ _ _ _ _ h1
  obtain ⟨s2, s, G⟩ := AN _ _ _ _ _ _ _ _ _ y
  obtain ⟨P, t, I⟩ := BG _ _ _ _ _ _ _ _ _ z
  obtain ⟨Q, u, J⟩ := BG _ _ _ _ _ _ _ _ _ A
  obtain ⟨R, v, L⟩ := AN _ _ _ _ _ _ _ _ _ D
  simp only [aM, List.cons.injEq, and_true] at q r s t u v
  obtain rfl := q
  obtain ⟨rfl, rfl⟩ := r
  obtain rfl := s
  obtain ⟨rfl, rfl⟩ := t
  obtain ⟨rfl, rfl⟩ := u
  obtain rfl := v
  refine ⟨⟨O, s1, s2, P, Q, R⟩, rfl, ?_⟩
  simp only [List.map, Rows.uptoBulk, Rows.uptoBulkAll, ox] at E F G I J L ⊢
  omega
theorem FM : Tryz.prog.cellsOf 54 = 1 := by kernel_rfl
theorem HS : Tryz.prog.cellsOf 5 = 1 := by kernel_rfl
theorem Jq : yG Tryz.prog 5 (Fx (Pl (dM .u8)) (fun x => 0 ≤ x ∧ x < 256)) (fun _ => 0) := J8 Tryz.underlying5
theorem vm : Tryz.prog.cellsOf 113 = 5 := by kernel_rfl
theorem MP {α : Type} {l : List α} (h : l.length = 4) : ∃ a0 a a2 a3, l = [a0, a, a2, a3] := by
  match l, h with
  | [a0, a, a2, a3], _ => exact ⟨a0, a, a2, a3, rfl⟩
theorem MV {α : Type} {l : List α} (h : l.length = 5) : ∃ a0 a a2 a3 a4, l = [a0, a, a2, a3, a4] := by
  match l, h with
  | [a0, a, a2, a3, a4], _ => exact ⟨a0, a, a2, a3, a4, rfl⟩
theorem Ie : Tryz.prog.cellsOf 111 = 1 := by kernel_rfl
theorem MX {H : Type} {x : DataW H × List MemPlace} {ys : List (DataW H × List MemPlace)} {p : List MemPlace} (a : x = (.agg (ys.map (·.1)), p)) (i : Nat) {y : DataW H × List MemPlace} (h : ys[i]? = some y) : SizeOf.sizeOf y.1 < SizeOf.sizeOf x.1 := by
  subst a
  have := List.sizeOf_lt_of_mem (List.mem_map.2 ⟨y, List.mem_of_getElem? h, rfl⟩ : y.1 ∈ ys.map (·.1))
  simp only [DataW.agg.sizeOf_spec]; omega
theorem Eo : ∀ l : List Formula, szFL l ≤ lK sM l
  | [] => Nat.le_refl _
  | k :: l => by have := Eo l; rw [szFL]; simp only [lK, List.map_cons, List.sum_cons] at this ⊢; omega
theorem Kl : ∀ (N : Nat) (H : Type) (I : TypeId × Value → H) (W : World) (base : Nat) (sp : Nat → Bool) (J : Bool) (fuel : Nat) (cs : List Value) (x : DataW H × List MemPlace),
    DataW.trod I Tryz.prog W base sp J fuel 113 cs = some x → SizeOf.sizeOf x.1 < N → ∃ a : Formula, aD (hp W) cs a ∧ sM a ≤ Rows.uptoBulk x.1 := by
  intro N
  induction N with
  | zero => intro _ _ _ _ _ _ _ _ _ _ h; exact absurd h (Nat.not_lt_zero _)
  | succ N ih =>
    intro H I W base sp J fuel cs x h hN
    obtain ⟨a1, w, _, r, A, q, k⟩ := DataW.trod_struct Tryz.underlying113 h
    obtain ⟨s, t, u, v, rfl⟩ := MP q
    obtain ⟨b, d, g, i, j, rfl⟩ := MV (A.trans vm)
    have l : DataW.trod _ Tryz.prog W _ _ _ w 3 (([b, d, g, i, j].drop 0).take (Tryz.prog.cellsOf 3)) = some s := k 0 _ rfl
    have m : DataW.trod _ Tryz.prog W _ _ _ w 3 (([b, d, g, i, j].drop 1).take (Tryz.prog.cellsOf 3)) = some t := k 1 _ rfl
    have n : DataW.trod _ Tryz.prog W _ _ _ w 28 (([b, d, g, i, j].drop 2).take (Tryz.prog.cellsOf 28)) = some u := k 2 _ rfl
    have p : DataW.trod _ Tryz.prog W _ _ _ w 111 (([b, d, g, i, j].drop 4).take (Tryz.prog.cellsOf 111)) = some v := k 3 _ rfl
    simp only [Ie, zk, BB, List.drop, List.take] at l m n p
    obtain ⟨s2, D, O⟩ := xE _ _ _ _ _ _ _ _ _ l
    simp only [List.cons.injEq, and_true] at D
    obtain rfl := D
    obtain ⟨Y, E, P⟩ := xE _ _ _ _ _ _ _ _ _ m
    simp only [List.cons.injEq, and_true] at E
    obtain rfl := E
    obtain ⟨Z, F, Q⟩ := BG _ _ _ _ _ _ _ _ _ n
    simp only [aM, List.cons.injEq, and_true] at F
    obtain ⟨rfl, rfl⟩ := F
    obtain ⟨v5, L, G, U, R⟩ := Ab vm (by decide) Tryz.underlying111 (fun f cs y h T => ih _ _ _ _ _ _ _ _ _ h (by have := MX r 3 rfl; omega)) p
    simp only [List.cons.injEq, and_true] at G
    obtain rfl := G
    have M := congrArg (fun z => Rows.uptoBulk z.1) r
    refine ⟨⟨s2, Y, Z, L⟩, aD.mk ⟨_, rfl, U⟩, ?_⟩
    have T := Eo L
    simp only [List.map, Rows.uptoBulk, Rows.uptoBulkAll, qZ] at O P Q R M ⊢
    rw [EY]
    simp only
    omega
theorem Co : yG Tryz.prog 113 aD sM := fun H a W base sp b fuel cs x h => Kl _ H a W base sp b fuel cs x h (Nat.lt_succ_self _)
def nJ (x : cI) : Nat := ox x.Signed.aB + lK (fun _ : Int => 0) x.Signed.Tag + 1 + sM x.aI + 1
def G4 (x : cI) : Prop := (∀ y ∈ x.Signed.Tag, 0 ≤ y ∧ y < 256)
theorem FV : yG Tryz.prog 138 (Fx bN G4) nJ := by
  intro H eh W base sp hd fuel cs x h
  obtain ⟨a6, n6, _, R, Q, A, G⟩ := DataW.trod_struct Tryz.underlying138 h
  obtain ⟨J, L, rfl⟩ := yO A
  obtain ⟨a, b, d, g, i, j, k, l, m, n, p, q, r, s, t, rfl⟩ := LR (Q.trans Aq)
  have u : DataW.trod _ Tryz.prog W _ _ _ n6 56 (([a, b, d, g, i, j, k, l, m, n, p, q, r, s, t].drop 0).take (Tryz.prog.cellsOf 56)) = some J := G 0 _ rfl
  have v : DataW.trod _ Tryz.prog W _ _ _ n6 113 (([a, b, d, g, i, j, k, l, m, n, p, q, r, s, t].drop 10).take (Tryz.prog.cellsOf 113)) = some L := G 1 _ rfl
  simp only [vm, Kg, List.drop, List.take] at u v
  obtain ⟨a7, n7, _, T, a1, D, I⟩ := DataW.trod_struct Tryz.underlying56 u
  obtain ⟨M, O, rfl⟩ := yO D
  have w : DataW.trod _ Tryz.prog W _ _ _ n7 53 (([a, b, d, g, i, j, k, l, m, n].drop 0).take (Tryz.prog.cellsOf 53)) = some M := I 0 _ rfl
  have y : DataW.trod _ Tryz.prog W _ _ _ n7 54 (([a, b, d, g, i, j, k, l, m, n].drop 9).take (Tryz.prog.cellsOf 54)) = some O := I 1 _ rfl
  simp only [BY, FM, List.drop, List.take] at w y
  obtain ⟨s8, Z, b8⟩ := Jk _ _ _ _ _ _ _ _ _ w
  simp only [aG, aM, List.cons.injEq, and_true] at Z
  obtain ⟨rfl, rfl, rfl, rfl, rfl, rfl, rfl, rfl, rfl⟩ := Z
  obtain ⟨v9, s9, e9, U, b9⟩ := mQ HS (by decide) Jq Tryz.underlying54 y
  simp only [List.cons.injEq, and_true] at e9
  obtain rfl := e9
  obtain ⟨U, g9⟩ := Lf.Sl.all U
  have b7 := congrArg (fun z => Rows.uptoBulk z.1) T
  obtain ⟨Y, E, P⟩ := Co _ _ _ _ _ _ _ _ _ v
  obtain ⟨v10, F, E⟩ := E.out
  simp only [List.cons.injEq, and_true] at F
  obtain ⟨rfl, rfl, rfl, rfl, rfl⟩ := F
  have b6 := congrArg (fun z => Rows.uptoBulk z.1) R
  refine ⟨⟨⟨s8, s9⟩, Y⟩, ⟨bN.mk ⟨_, _, rfl, U, E⟩, g9⟩, ?_⟩
  simp only [List.map, Rows.uptoBulk, Rows.uptoBulkAll, nJ] at b8 b9 b7 P b6 ⊢
  omega
theorem DZ : Tryz.prog.cellsOf 108 = 1 := by kernel_rfl
theorem Ao : Tryz.prog.cellsOf 263 = 8 := by kernel_rfl
theorem M1 {α : Type} {l : List α} (h : l.length = 8) : ∃ a0 a a2 a3 a4 a5 b d, l = [a0, a, a2, a3, a4, a5, b, d] := by
  match l, h with
  | [a0, a, a2, a3, a4, a5, b, d], _ => exact ⟨a0, a, a2, a3, a4, a5, b, d, rfl⟩
theorem JA : Tryz.prog.cellsOf 22 = 1 := by kernel_rfl
def rp (x : gL) : Nat := qZ x.aA + sM x.aI + lK ox x.eS + 1
def L5 (x : gL) : Prop := True
theorem FD : yG Tryz.prog 263 (Fx dF L5) rp := by
  intro H U W base sp Y fuel cs x h
  obtain ⟨Q, n11, _, E, D, r, q⟩ := DataW.trod_struct Tryz.underlying263 h
  obtain ⟨t, u, v, rfl⟩ := Iy r
  obtain ⟨a, b, d, g, i, j, k, l, rfl⟩ := M1 (D.trans Ao)
  have m : DataW.trod _ Tryz.prog W _ _ _ n11 28 (([a, b, d, g, i, j, k, l].drop 0).take (Tryz.prog.cellsOf 28)) = some t := q 0 _ rfl
  have n : DataW.trod _ Tryz.prog W _ _ _ n11 113 (([a, b, d, g, i, j, k, l].drop 2).take (Tryz.prog.cellsOf 113)) = some u := q 1 _ rfl
  have p : DataW.trod _ Tryz.prog W _ _ _ n11 22 (([a, b, d, g, i, j, k, l].drop 7).take (Tryz.prog.cellsOf 22)) = some v := q 2 _ rfl
  simp only [vm, JA, zk, List.drop, List.take] at m n p
  obtain ⟨M, w, G⟩ := BG _ _ _ _ _ _ _ _ _ m
  simp only [aM, List.cons.injEq, and_true] at w
  obtain ⟨rfl, rfl⟩ := w
  obtain ⟨O, s, I⟩ := Co _ _ _ _ _ _ _ _ _ n
  obtain ⟨R, y, s⟩ := s.out
  simp only [List.cons.injEq, and_true] at y
  obtain ⟨rfl, rfl, rfl, rfl, rfl⟩ := y
  obtain ⟨T, P, A, L, J⟩ := mQ BY (by decide) Jk.rel Tryz.underlying22 p
  simp only [List.cons.injEq, and_true] at A
  obtain rfl := A
  have F := congrArg (fun z => Rows.uptoBulk z.1) E
  refine ⟨⟨M, O, P⟩, ⟨dF.mk ⟨_, _, rfl, s, L⟩, trivial⟩, ?_⟩
  simp only [List.map, Rows.uptoBulk, Rows.uptoBulkAll, rp] at G I J F ⊢
  omega
theorem Eu : Tryz.prog.cellsOf 114 = 2 := by kernel_rfl
def yz (x : rM) : Nat := 0
theorem KK : BH Tryz.prog 114 Bc yz := by
  intro H g W base sp j fuel cs x h
  obtain ⟨xs, n, _, rfl, p, hlen, k⟩ := DataW.trod_array Tryz.underlying114 h
  obtain ⟨r, s, rfl⟩ := yO hlen
  obtain ⟨a, c1, rfl⟩ := yO (p.trans Eu)
  have i : DataW.trod g Tryz.prog W base sp j n 3 (([a, c1].drop (0 * Tryz.prog.cellsOf 3)).take (Tryz.prog.cellsOf 3)) = some r := k 0 (by decide)
  have h1 : DataW.trod g Tryz.prog W base sp j n 3 (([a, c1].drop (1 * Tryz.prog.cellsOf 3)).take (Tryz.prog.cellsOf 3)) = some s := k 1 (by decide)
  simp only [BB, List.drop, List.take, Nat.reduceMul] at i h1
  obtain ⟨q, b, l⟩ := xE _ _ _ _ _ _ _ _ _ i
  obtain ⟨s1, d, m⟩ := xE _ _ _ _ _ _ _ _ _ h1
  simp only [List.cons.injEq, and_true] at b d
  obtain rfl := b
  obtain rfl := d
  refine ⟨⟨q, s1⟩, rfl, ?_⟩
  simp only [List.map, Rows.uptoBulk, Rows.uptoBulkAll, yz] at l m ⊢
  omega
theorem JD : Tryz.prog.cellsOf 49 = 1 := by kernel_rfl
theorem Et : Tryz.prog.cellsOf 196 = 2 := by kernel_rfl
def vA (x : Key) : Nat := x.cH.size + lK (fun _ : Int => 0) x.Key + 1
def Md (x : Key) : Prop := (∀ y ∈ x.Key, 0 ≤ y ∧ y < 256)
theorem JF : yG Tryz.prog 196 (Fx jV Md) vA := by
  intro H A W base sp D fuel cs x h
  obtain ⟨y, n15, _, r, q, i, j⟩ := DataW.trod_struct Tryz.underlying196 h
  obtain ⟨l, m, rfl⟩ := yO i
  obtain ⟨a, b, rfl⟩ := yO (q.trans Et)
  have d : DataW.trod _ Tryz.prog W _ _ _ n15 9 (([a, b].drop 0).take (Tryz.prog.cellsOf 9)) = some l := j 0 _ rfl
  have g : DataW.trod _ Tryz.prog W _ _ _ n15 54 (([a, b].drop 1).take (Tryz.prog.cellsOf 54)) = some m := j 1 _ rfl
  simp only [FM, yv, List.drop, List.take] at d g
  obtain ⟨v, n, t⟩ := AN _ _ _ _ _ _ _ _ _ d
  simp only [List.cons.injEq, and_true] at n
  obtain rfl := n
  obtain ⟨v17, w, p, k, u⟩ := mQ HS (by decide) Jq Tryz.underlying54 g
  simp only [List.cons.injEq, and_true] at p
  obtain rfl := p
  obtain ⟨k, g17⟩ := Lf.Sl.all k
  have s := congrArg (fun z => Rows.uptoBulk z.1) r
  refine ⟨⟨v, w⟩, ⟨jV.mk ⟨_, rfl, k⟩, g17⟩, ?_⟩
  simp only [List.map, Rows.uptoBulk, Rows.uptoBulkAll, vA] at t u s ⊢
  omega
def BE (x : fL) : Nat := x.aC.Name.size + lK nJ x.aC.aT + lK rp x.aC.bP + 1 + x.Client.Name.size + lK nJ x.Client.aT + lK rp x.Client.bP + 1 + sM x.Formula + yz x.fh + lK vA x.Keys + 1
theorem Ms : Tryz.prog.readableRec 116 = true ∧ 116 < Tryz.prog.types.size := ⟨by kernel_rfl, of_decide_eq_true (by kernel_rfl)⟩
theorem xc (c : aB) : rh c = ox c := by unfold rh ox qZ; omega
theorem FQ {α : Type} (sz : α → Nat) (h : ∀ a, 2 ≤ sz a) : ∀ l : List α, 2 * l.length ≤ lK sz l
  | [] => Nat.zero_le _
  | a :: l => by have := FQ sz h l; have := h a; simp only [lK, List.map_cons, List.sum_cons, List.length_cons] at *; omega
theorem vp (y : cI) : nJ y = ox y.Signed.aB + lK (fun _ : Int => 0) y.Signed.Tag + 1 + sM y.aI + 1 := rfl
theorem Ee (y : gL) : rp y = qZ y.aA + sM y.aI + lK ox y.eS + 1 := rfl
theorem It (y : Key) : vA y = y.cH.size + lK (fun _ : Int => 0) y.Key + 1 := rfl
theorem FH : ∀ l : List aB, rz l ≤ 21 * lK ox l
  | [] => Nat.zero_le _
  | c :: l => by have := FH l; rw [rz, xc]; simp only [lK, List.map_cons, List.sum_cons] at *; omega
theorem Fw : ∀ l : List cI, vW l ≤ 21 * lK nJ l
  | [] => Nat.zero_le _
  | x :: l => by
    have := Fw l
    have := wG (fun _ : Int => 0) x.Signed.Tag
    rw [vW, xc]
    have e := vp x
    simp only [lK, List.map_cons, List.sum_cons] at *; omega
theorem FT : ∀ l : List gL, uT l ≤ 21 * lK rp l
  | [] => Nat.zero_le _
  | x :: l => by
    have := FT l
    have := FH x.eS
    rw [uT]
    have e := Ee x
    unfold qZ at e
    have a : lK rp (x :: l) = max 1 (rp x) + lK rp l := rfl
    omega
theorem FG : ∀ l : List Key, wU l ≤ 11 * lK vA l
  | [] => Nat.zero_le _
  | x :: l => by
    have := FG l
    have := wG (fun _ : Int => 0) x.Key
    rw [wU]
    have e := It x
    have a : lK vA (x :: l) = max 1 (vA x) + lK vA l := rfl
    omega
theorem EW (x : cR) (d : x.Name.size ≤ 1048576) (h1 : lK nJ x.aT ≤ 1048576) (g : lK rp x.bP ≤ 1048576) : PG x ∧ x.aT.length ≤ 600000 ∧ Dk x ≤ 1000000000 := by
  have c1 := FQ nJ (fun y => by rw [vp]; omega) x.aT
  have c2 := wG rp x.bP
  have g1 : ∀ y ∈ x.aT, ox y.Signed.aB ≤ 1048576 ∧ cD y.aI ≤ 1048576 := fun y a => by
    have := AZ (sz := nJ) a
    have e := vp y
    have := vK y.aI
    omega
  have g2 : ∀ y ∈ x.bP, cD y.aI ≤ 1048576 ∧ lK ox y.eS ≤ 1048576 := fun y a => by
    have := AZ (sz := rp) a
    have e := Ee y
    have := vK y.aI
    omega
  refine ⟨{ BI := by omega, GN := by omega, rel := fun y a => ?_, Gk := fun y a => ?_, Mx := fun y a => ?_, Nj := fun y a => ?_, Nn := fun y a c b => ?_ }, by omega, ?_⟩
  · have := (g1 y a).2; omega
  · have := (g2 y a).1; omega
  · have := (g2 y a).2; have := wG ox y.eS; omega
  · have := (g1 y a).1; rw [xc]; omega
  · have := (g2 y a).2; have := AZ (sz := ox) b; rw [xc]; omega
  · have := Fw x.aT; have := FT x.bP; unfold Dk; omega
theorem Ko (p : fL) (h : BE p ≤ 1048576) : PQ p := by
  unfold BE at h
  have a := EW p.aC (by omega) (by omega) (by omega)
  have b := EW p.Client (by omega) (by omega) (by omega)
  have k := FG p.Keys
  have f := vK p.Formula
  exact { o := a.1, c := b.1, lo := a.2.1, lc := b.2.1, f := by omega, go := a.2.2, gc := b.2.2, fs := by omega, ks := by omega }
theorem own : ownKnob Tryz.prog.godebug = none := by kernel_rfl
theorem IB : laidOutB Tryz.prog = true := by kernel_rfl
theorem IK (H : Type) (enc : TypeId × Value → H) (W : World) (base : Nat) (args : Array Value) (ds gs : List (DataW H)) (before : List MemPlace) (ae : ∀ (j : Nat) t v, Tryz.f11.params[j]? = some t → args[j]? = some v → Value.okWide Tryz.prog W .any base t v) (hW : DataW.Whole enc Tryz.prog Tryz.f11.params.toList Rows.stuckTellsSpec.vars false W args.toList ds gs before) (hk : Rows.uptoSmall H (ds ++ gs) = true) :
    Calls Tryz.prog 11 args W fun e W' => ∃ v, e = .returned v ∧ Rows.stuckTellsSpec.post enc Tryz.prog Tryz.f11 false true false false W args v W' := by
  have ct := hW
  obtain ⟨p, q, cs, hV, rfl, dh, di⟩ := hW
  have hA : DataW.TrodAll enc Tryz.prog W 0 (fun _ => true) true Tryz.f11.params.toList args.toList ds p := cs
  have hr : ∀ t ∈ Tryz.f11.params.toList, Tryz.prog.readableRec t = true ∧ t < Tryz.prog.types.size := by
    rw [Tryz.params11]
    intro t ht
    simp only [List.mem_cons, List.not_mem_nil, or_false] at ht
    subst ht
    exact Ms
  rw [Tryz.params11] at hA ae
  obtain ⟨v0, dj, d0, da, p0, q0, cu, rfl, rfl, h0, r0⟩ := trodAll_cons hA
  obtain ⟨rfl, rfl, rfl⟩ := trodAll_nil r0
  obtain rfl : args = #[v0] := by cases args; simp_all
  obtain ⟨rfl, rfl⟩ := trodVars_none hV
  have k0 := ae 0 116 v0 rfl rfl
  obtain ⟨bj, rfl, _⟩ := okWide_struct Tryz.underlying116 k0
  obtain ⟨db, c3⟩ := h0
  obtain ⟨cv, rfl⟩ : ∃ l : List Value, bj = l.toArray := ⟨bj.toList, by simp⟩
  change DataW.trod _ _ _ _ _ _ _ _ cv = some _ at c3
  obtain ⟨cy, n18, _, c5, c4, aa, F⟩ := DataW.trod_struct Tryz.underlying116 c3
  obtain ⟨b1, b2, b3, b4, b5, b6, b7, b9, ba, rfl⟩ := Ly aa
  obtain ⟨k, a, b, m, d, g, y, A, D, E, h, n, r, s, u, w, x, i, rfl⟩ := Mu (c4.trans Ia)
  have G : DataW.trod _ Tryz.prog W _ _ _ n18 110 (([k, a, b, m, d, g, y, A, D, E, h, n, r, s, u, w, x, i].drop 0).take (Tryz.prog.cellsOf 110)) = some b1 := F 0 _ rfl
  have I : DataW.trod _ Tryz.prog W _ _ _ n18 110 (([k, a, b, m, d, g, y, A, D, E, h, n, r, s, u, w, x, i].drop 3).take (Tryz.prog.cellsOf 110)) = some b2 := F 1 _ rfl
  have J : DataW.trod _ Tryz.prog W _ _ _ n18 113 (([k, a, b, m, d, g, y, A, D, E, h, n, r, s, u, w, x, i].drop 6).take (Tryz.prog.cellsOf 113)) = some b3 := F 2 _ rfl
  have L : DataW.trod _ Tryz.prog W _ _ _ n18 3 (([k, a, b, m, d, g, y, A, D, E, h, n, r, s, u, w, x, i].drop 11).take (Tryz.prog.cellsOf 3)) = some b4 := F 3 _ rfl
  have M : DataW.trod _ Tryz.prog W _ _ _ n18 114 (([k, a, b, m, d, g, y, A, D, E, h, n, r, s, u, w, x, i].drop 12).take (Tryz.prog.cellsOf 114)) = some b5 := F 4 _ rfl
  have O : DataW.trod _ Tryz.prog W _ _ _ n18 3 (([k, a, b, m, d, g, y, A, D, E, h, n, r, s, u, w, x, i].drop 14).take (Tryz.prog.cellsOf 3)) = some b6 := F 5 _ rfl
  have P : DataW.trod _ Tryz.prog W _ _ _ n18 3 (([k, a, b, m, d, g, y, A, D, E, h, n, r, s, u, w, x, i].drop 15).take (Tryz.prog.cellsOf 3)) = some b7 := F 6 _ rfl
  have Q : DataW.trod _ Tryz.prog W _ _ _ n18 3 (([k, a, b, m, d, g, y, A, D, E, h, n, r, s, u, w, x, i].drop 16).take (Tryz.prog.cellsOf 3)) = some b9 := F 7 _ rfl
  have R : DataW.trod _ Tryz.prog W _ _ _ n18 49 (([k, a, b, m, d, g, y, A, D, E, h, n, r, s, u, w, x, i].drop 17).take (Tryz.prog.cellsOf 49)) = some ba := F 8 _ rfl
  simp only [Iq, vm, Eu, BB, JD, List.drop, List.take] at G I J L M O P Q R
  obtain ⟨cz, n19, _, c6, cw, ab, a7⟩ := DataW.trod_struct Tryz.underlying110 G
  obtain ⟨bb, bc, bd, rfl⟩ := Iy ab
  have T : DataW.trod _ Tryz.prog W _ _ _ n19 9 (([k, a, b].drop 0).take (Tryz.prog.cellsOf 9)) = some bb := a7 0 _ rfl
  have U : DataW.trod _ Tryz.prog W _ _ _ n19 107 (([k, a, b].drop 1).take (Tryz.prog.cellsOf 107)) = some bc := a7 1 _ rfl
  have Y : DataW.trod _ Tryz.prog W _ _ _ n19 108 (([k, a, b].drop 2).take (Tryz.prog.cellsOf 108)) = some bd := a7 2 _ rfl
  simp only [Ev, DZ, yv, List.drop, List.take] at T U Y
  obtain ⟨al, bk, ca⟩ := AN _ _ _ _ _ _ _ _ _ T
  simp only [List.cons.injEq, and_true] at bk
  obtain rfl := bk
  obtain ⟨v21, an, bl, af, cb⟩ := mQ Aq (by decide) FV Tryz.underlying107 U
  simp only [List.cons.injEq, and_true] at bl
  obtain rfl := bl
  obtain ⟨af, g21⟩ := Lf.Sl.all af
  obtain ⟨v22, ao, bn, ag, cc⟩ := mQ Ao (by decide) FD Tryz.underlying108 Y
  simp only [List.cons.injEq, and_true] at bn
  obtain rfl := bn
  obtain ⟨ag, g22⟩ := Lf.Sl.all ag
  have c9 := congrArg (fun z => Rows.uptoBulk z.1) c6
  obtain ⟨cS, n23, _, c7, cx, ad, a8⟩ := DataW.trod_struct Tryz.underlying110 I
  obtain ⟨bf, bh, bi, rfl⟩ := Iy ad
  have Z : DataW.trod _ Tryz.prog W _ _ _ n23 9 (([m, d, g].drop 0).take (Tryz.prog.cellsOf 9)) = some bf := a8 0 _ rfl
  have a1 : DataW.trod _ Tryz.prog W _ _ _ n23 107 (([m, d, g].drop 1).take (Tryz.prog.cellsOf 107)) = some bh := a8 1 _ rfl
  have a6 : DataW.trod _ Tryz.prog W _ _ _ n23 108 (([m, d, g].drop 2).take (Tryz.prog.cellsOf 108)) = some bi := a8 2 _ rfl
  simp only [Ev, DZ, yv, List.drop, List.take] at Z a1 a6
  obtain ⟨ap, bo, cf⟩ := AN _ _ _ _ _ _ _ _ _ Z
  simp only [List.cons.injEq, and_true] at bo
  obtain rfl := bo
  obtain ⟨v25, aq, bp, ah, cg⟩ := mQ Aq (by decide) FV Tryz.underlying107 a1
  simp only [List.cons.injEq, and_true] at bp
  obtain rfl := bp
  obtain ⟨ah, de⟩ := Lf.Sl.all ah
  obtain ⟨v26, ar, bq, ai, ch⟩ := mQ Ao (by decide) FD Tryz.underlying108 a6
  simp only [List.cons.injEq, and_true] at bq
  obtain rfl := bq
  obtain ⟨ai, df⟩ := Lf.Sl.all ai
  have cd := congrArg (fun z => Rows.uptoBulk z.1) c7
  obtain ⟨au, aj, cj⟩ := Co _ _ _ _ _ _ _ _ _ J
  obtain ⟨v27, bs, aj⟩ := aj.out
  simp only [List.cons.injEq, and_true] at bs
  obtain ⟨rfl, rfl, rfl, rfl, rfl⟩ := bs
  obtain ⟨av, bt, ck⟩ := xE _ _ _ _ _ _ _ _ _ L
  simp only [List.cons.injEq, and_true] at bt
  obtain rfl := bt
  obtain ⟨aw, bu, cm⟩ := KK _ _ _ _ _ _ _ _ _ M
  simp only [Bc, List.cons.injEq, and_true] at bu
  obtain ⟨rfl, rfl⟩ := bu
  obtain ⟨ay, bw, cn⟩ := xE _ _ _ _ _ _ _ _ _ O
  simp only [List.cons.injEq, and_true] at bw
  obtain rfl := bw
  obtain ⟨az, bx, cp⟩ := xE _ _ _ _ _ _ _ _ _ P
  simp only [List.cons.injEq, and_true] at bx
  obtain rfl := bx
  obtain ⟨aE, bz, cq⟩ := xE _ _ _ _ _ _ _ _ _ Q
  simp only [List.cons.injEq, and_true] at bz
  obtain rfl := bz
  obtain ⟨v33, b0, c0, ak, cr⟩ := mQ Et (by decide) JF Tryz.underlying49 R
  simp only [List.cons.injEq, and_true] at c0
  obtain rfl := c0
  obtain ⟨ak, dg⟩ := Lf.Sl.all ak
  have c8 := congrArg (fun z => Rows.uptoBulk z.1) c5
  simp only [List.map, Rows.uptoBulk, Rows.uptoBulkAll] at ca cb cc c9 cf cg ch cd cj ck cm cn cp cq cr c8
  have z0 : BE (⟨⟨al, an, ao⟩, ⟨ap, aq, ar⟩, au, av, aw, ay, az, aE, b0⟩ : fL) ≤ Rows.uptoBulk d0 := by simp only [BE]; omega
  have hB : Rows.uptoBulkAll ([d0] ++ []) ≤ 1048576 := of_decide_eq_true hk
  simp only [List.append_nil, Rows.uptoBulkAll] at hB
  have hm : nH (⟨⟨al, an, ao⟩, ⟨ap, aq, ar⟩, au, av, aw, ay, az, aE, b0⟩ : fL) = some true := Ba JC _ (Ko _ (by omega))
  have hg := yZ (⟨⟨al, an, ao⟩, ⟨ap, aq, ar⟩, au, av, aw, ay, az, aE, b0⟩ : fL) a b d g h i true W af ag ah ai aj ak hm
  refine Calls.mono hg fun e W' ⟨he, hx⟩ => ?_
  subst he
  exact ⟨_, rfl, Gv IB hr rfl ct hx (fun _ _ _ => trodAll_cons_mk (shut_bool Tryz.underlying4 _) trodAll_mk0) rfl rfl (ok_one (by kernel_rfl) rfl (okWide_bool_mk Tryz.underlying4 _))⟩
set_option maxRecDepth 100000 in
theorem KD (os : Os) (started : os.Started) (H : Type) (enc : TypeId × Value → H) (F : Stop.Interp) :
    ReturnsInHanded {} Tryz.checked os 11 .any ((Rows.OpenSpec.upto Rows.stuckTellsSpec).pre6 enc Tryz.prog Tryz.f11 Rows.stuckTellsUptoRow.domain false) (((Rows.OpenSpec.upto Rows.stuckTellsSpec).at F).post enc Tryz.prog Tryz.f11 false true false false) := by
  refine returnsInHanded_of_cond (C := Tryz.checked) (s := Rows.OpenSpec.upto Rows.stuckTellsSpec) (k := Rows.uptoSmall) rfl own started (by kernel_rfl) Tryz.func11
    (OpenSpec.witness (enc := enc) (C := Tryz.checked) (s := Rows.OpenSpec.upto Rows.stuckTellsSpec) (k := Rows.uptoSmall) rfl false ⟨#[], #[.agg #[.string ⟨#[]⟩, .slice none 0 0, .slice none 0 0, .string ⟨#[]⟩, .slice none 0 0, .slice none 0 0, .int .i64 0, .int .i64 0, .string ⟨#[]⟩, .string ⟨#[]⟩, .slice none 0 0, .int .i64 0, .int .i64 0, .int .i64 0, .int .i64 0, .int .i64 0, .int .i64 0, .slice none 0 0]], []⟩ 8 (by kernel_rfl) (by kernel_rfl) (by kernel_rfl)
      (x := ([.agg [.agg [.lit (.string []), .nil, .nil], .agg [.lit (.string []), .nil, .nil], .agg [.lit (.int .i64 0), .lit (.int .i64 0), .agg [.lit (.string []), .lit (.string [])], .nil], .lit (.int .i64 0), .agg [.lit (.int .i64 0), .lit (.int .i64 0)], .lit (.int .i64 0), .lit (.int .i64 0), .lit (.int .i64 0), .nil]], [], [])) (by kernel_rfl) rfl (by kernel_rfl)) ?_
  intro W base args ds gs before a b _ hk _
  exact IK H enc W base args ds gs before a b hk
theorem Mr {a b : Bool} (ha : a = true) (d : b = true) : (a && b) = true := by rw [ha, d]; rfl
set_option maxHeartbeats 40000000 in
theorem JP : joinedFacts Tryz.checked.prog 11 Tryz.f11 (Rows.OpenSpec.upto Rows.stuckTellsSpec).bare Rows.stuckTellsUptoRow = true := by
  unfold joinedFacts
  repeat' with_reducible refine Mr ?_ ?_
  all_goals as_aux_lemma => kernel_rfl
theorem proved : Rows.StuckTellsUptoSaid :=
  OpenClaim.holds_of_cond 11 Tryz.f11 rfl rfl rfl rfl rfl rfl rfl ⟨rfl, rfl, rfl, rfl, rfl⟩ rfl rfl rfl rfl rfl (by kernel_rfl) Tryz.func11 JP
    (of_decide_eq_true (by kernel_rfl)) (by unfold Func.isWrapper; first | (rw [if_pos (by decide +kernel)]; kernel_rfl) | (rw [if_neg (by decide +kernel)]; exact ⟨rfl, rfl⟩))
    (fun os started H enc _ F => KD os started H enc F)
end Go.Proofs.YtmlncblocfcmiaaGreat
