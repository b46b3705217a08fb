/- a part of a proof of GuardRises -/
import Derived.Test.YtmlncblocfcmiaaGreatHbg
import Derived.Test.YtmlncblocfcmiaaGreatRtTg
import Derived.Test.YtmlncblocfcmiaaGreatRows
import Derived.WalkKit
import Derived.ProofKit
import Derived.OpenShut
import Derived.JoinedCond
import Derived.Deep.Slices
import Derived.Carry
import Derived.ChangeArms
import Derived.ChangeSame
import Derived.Test.YtmlncblocfcmiaaGreatGRW3g
set_option linter.all false
namespace Go.Proofs.YtmlncblocfcmiaaGreat
open Go.RowKit
def eW (op : Int) (f : aB) : Bool := decide (f.Op = op) && f.Kids.isEmpty
theorem A4 (f : aB) (op : Int) : nA f op = some (eW op f) := by
  unfold nA eW
  rw [kL]
  by_cases h : f.Op = op
  · simp only [h, beq_self_eq_true, if_true, decide_true, Bool.true_and]
    congr 1
    cases hk : f.Kids with
    | nil => rfl
    | cons a l => simp; omega
  · have e : (f.Op == op) = false := by simpa using h
    simp [e, h]
def iL (op : Int) : List aB → List aB
  | [] => []
  | k :: ks => (if k.Op = op then k.Kids else [k]) ++ iL op ks
theorem yb (op : Int) : ∀ ks : List aB, nodesL (iL op ks) ≤ nodesL ks
  | [] => Nat.le_refl _
  | k :: ks => by
    have ih := yb op ks
    have e : ∀ a b : List aB, nodesL (a ++ b) = nodesL a + nodesL b := by
      intro a b
      induction a with
      | nil => rw [List.nil_append, nodesL]; omega
      | cons x a iha => rw [List.cons_append, nodesL, nodesL, iha]; omega
    have := mM k
    rw [iL, e, nodesL]
    split
    · omega
    · rw [nodesL, nodesL]; omega
theorem Ch (op : Int) : ∀ (ks acc : List aB), acc.length + nodesL ks ≤ 100000000 → iQ op ks acc = some (acc ++ iL op ks)
  | [], acc, _ => by rw [iQ, iL, List.append_nil]
  | k :: ks, acc, h => by
    rw [nodesL] at h
    have h1 := mM k
    have h2 := sm k.Kids
    rw [iQ, iL]
    by_cases c : k.Op = op
    · simp only [c, beq_self_eq_true, if_true]
      rw [gM (by omega) (by omega), Option.bind_some, Ch op ks _ (by simp; omega), List.append_assoc]
    · have e : (k.Op == op) = false := by simpa using c
      simp only [e, Bool.false_eq_true, if_false, c]
      rw [gM (by simp; omega) (by simp; omega), Option.bind_some, Ch op ks _ (by simp; omega), List.append_assoc]
noncomputable def mG (op : Int) (ks : List aB) : aB :=
  if (iL op ks).any (eW (5 - op)) then ⟨5 - op, 0, nT, []⟩ else
    match dd ux (tT (iL op ks)) with
    | [x] => x
    | r => ⟨op, 0, nT, r⟩
theorem J0 {α : Type} (eq : α → α → Bool) (l : List α) : (dd eq l).length ≤ l.length := by
  cases l with
  | nil => exact Nat.le_refl _
  | cons x l =>
    have : ∀ (l : List α) (x : α), (jR eq x l).length ≤ l.length := by
      intro l
      induction l with
      | nil => intro x; exact Nat.le_refl _
      | cons y l ih => intro x; rw [jR]; have := ih y; have := ih x; split <;> simp <;> omega
    have := this l x
    rw [dd, List.length_cons, List.length_cons]; omega
theorem zq (s : bW) (op : Int) (hop : op = 2 ∨ op = 3) (ks : List aB) (h : nodesL ks ≤ 64) : fZ s op ks = some (mG op ks, s) := by
  have h1 := yb op ks
  have h2 := sm (iL op ks)
  have hG : ∀ x ∈ iL op ks, Gd x := fun x hx => by have := vg hx; unfold Gd; omega
  have hw : IntKind.i64.wrap (5 - op) = 5 - op := dL (by omega) (by omega)
  unfold fZ tz mG
  rw [Ch op ks [] (by simp; omega), Option.bind_some, List.nil_append, hw, Ak _ (eW (5 - op)) _ (fun x _ => by unfold jJ; rw [A4, kL]), Option.bind_some]
  cases hA : (iL op ks).any (eW (5 - op))
  · simp only [Bool.false_eq_true, if_false]
    have hp := qX (iL op ks)
    have hl := hp.length_eq
    rw [Eo _ hG (by omega), Option.bind_some, FX _ (fun x hx => hG x (hp.mem_iff.1 hx)) (by omega), Option.bind_some]
    have hd := J0 ux (tT (iL op ks))
    have hn : ¬ (((dd ux (tT (iL op ks))).length : Int) > 64) := by omega
    simp only [hn, decide_false, Bool.false_eq_true, if_false, Option.bind_some]
    generalize dd ux (tT (iL op ks)) = r
    match r with
    | [] => rfl
    | [x] => rfl
    | x :: y :: r =>
      have : (((x :: y :: r).length : Int) == 1) = false := by simp; omega
      simp only [this, Bool.false_eq_true, if_false]
      rfl
  · rfl
noncomputable def rk (k : Int) (ks : List aB) : aB :=
  let n := k - ((ks.filter (eW 2)).length : Int)
  let l := ks.filter fun x => !eW 2 x && !eW 3 x
  if n ≤ 0 then ⟨2, 0, nT, []⟩ else if n > (l.length : Int) then ⟨3, 0, nT, []⟩ else if n = (l.length : Int) then mG 2 l else if n = 1 then mG 3 l else ⟨4, n, nT, tT l⟩
theorem wk (p : aB → Bool) : ∀ ks : List aB, nodesL (ks.filter p) ≤ nodesL ks
  | [] => Nat.le_refl _
  | k :: ks => by
    have := wk p ks
    rw [List.filter_cons]
    split
    · rw [nodesL, nodesL]; omega
    · rw [nodesL]; omega
theorem vE (s : bW) : ∀ (ks acc : List aB) (k : Int), -1000 ≤ k - (ks.length : Int) → k ≤ 1000 → acc.length + ks.length ≤ 1000 → nodesL (acc ++ ks.filter fun x => !eW 2 x && !eW 3 x) ≤ 64 →
    dQ s ks k acc = some (let n := k - ((ks.filter (eW 2)).length : Int); let l := acc ++ ks.filter fun x => !eW 2 x && !eW 3 x; if n ≤ 0 then ⟨2, 0, nT, []⟩ else if n > (l.length : Int) then ⟨3, 0, nT, []⟩ else if n = (l.length : Int) then mG 2 l else if n = 1 then mG 3 l else ⟨4, n, nT, tT l⟩, s)
  | [], acc, k, h1, h2, h3, h4 => by
    simp only [List.filter_nil, List.append_nil, List.length_nil] at h4 ⊢
    rw [dQ]
    simp only [Int.ofNat_zero, Int.sub_zero, rT, sG, Option.bind_some, Int.natCast_zero]
    have hl := sm acc
    by_cases c1 : k ≤ 0
    · simp only [c1, decide_true, if_true]; rfl
    · simp only [c1, decide_false, Bool.false_eq_true, if_false]
      by_cases c2 : k > (acc.length : Int)
      · simp only [c2, decide_true, if_true]; rfl
      · simp only [c2, decide_false, Bool.false_eq_true, if_false]
        by_cases c3 : k = (acc.length : Int)
        · simp only [← c3, beq_self_eq_true, if_true]
          rw [zq s 2 (.inl rfl) acc h4, Option.bind_some]
        · have e3 : (k == (acc.length : Int)) = false := by simpa using c3
          simp only [e3, Bool.false_eq_true, if_false, c3]
          by_cases c4 : k = 1
          · simp only [c4, beq_self_eq_true, if_true]
            rw [zq s 3 (.inr rfl) acc h4, Option.bind_some]
          · have e4 : (k == 1) = false := by simpa using c4
            simp only [e4, Bool.false_eq_true, if_false, c4]
            rw [Eo acc (fun x hx => by have := vg hx; unfold Gd; omega) (by omega)]
            rfl
  | x :: ks, acc, k, h1, h2, h3, h4 => by
    simp only [List.length_cons] at h1 h3
    rw [dQ, A4, Option.bind_some, A4, Option.bind_some]
    rw [List.filter_cons, List.filter_cons] at *
    cases c2 : eW 2 x
    · cases c3 : eW 3 x
      · simp only [c2, c3, Bool.not_false, Bool.and_self, Bool.false_eq_true, if_false, if_true] at h4 ⊢
        rw [gM (by simp; omega) (by simp; omega), Option.bind_some, vE s ks _ k (by omega) h2 (by simp; omega) (by rw [List.append_assoc]; exact h4)]
        simp only [List.append_assoc, List.cons_append, List.nil_append]
      · simp only [c2, c3, Bool.not_false, Bool.not_true, Bool.and_false, Bool.false_eq_true, if_false] at h4 ⊢
        rw [vE s ks _ k (by omega) h2 (by omega) h4]
    · simp only [c2, Bool.not_true, Bool.false_and, Bool.false_eq_true, if_false, if_true] at h4 ⊢
      rw [dL (by omega) (by omega), vE s ks _ (k - 1) (by omega) (by omega) (by omega) h4]
      simp only [List.length_cons]
      have e : k - 1 - ((ks.filter (eW 2)).length : Int) = k - (((ks.filter (eW 2)).length + 1 : Nat) : Int) := by omega
      rw [e]
theorem FB (s : bW) (k : Int) (hk : 0 ≤ k ∧ k ≤ 1000) (ks : List aB) (h : nodesL ks ≤ 64) : jF s k ks = some (rk k ks, s) := by
  have := sm ks
  have := wk (fun x => !eW 2 x && !eW 3 x) ks
  unfold jF rk
  rw [vE s ks [] k (by omega) (by omega) (by simp; omega) (by simpa using by omega)]
  rfl
mutual
noncomputable def mX : aB → aB
  | ⟨o, k, r, ks⟩ => if o = 1 then ⟨o, k, r, ks⟩ else if o = 4 then rk k (shapeL ks) else mG o (shapeL ks)
noncomputable def shapeL : List aB → List aB
  | [] => []
  | k :: ks => mX k :: shapeL ks
end
theorem vc (f : aB) : mX f = if f.Op = 1 then f else if f.Op = 4 then rk f.K (shapeL f.Kids) else mG f.Op (shapeL f.Kids) := by cases f; rw [mX]
theorem Au {a b : List aB} (h : a.Perm b) : nodesL a = nodesL b := by
  induction h with
  | nil => rfl
  | cons x _ ih => rw [nodesL, nodesL, ih]
  | swap x y l => rw [nodesL, nodesL, nodesL, nodesL]; omega
  | trans _ _ h1 h2 => rw [h1, h2]
theorem yy (eq : aB → aB → Bool) : ∀ (l : List aB) (x : aB), nodesL (jR eq x l) ≤ nodesL l
  | [], x => Nat.le_refl _
  | y :: l, x => by
    have h1 := yy eq l y
    have h2 := yy eq l x
    rw [jR]
    split
    · rw [nodesL]; omega
    · rw [nodesL, nodesL]; omega
theorem HC (eq : aB → aB → Bool) (l : List aB) : nodesL (dd eq l) ≤ nodesL l := by
  cases l with
  | nil => exact Nat.le_refl _
  | cons x l => have := yy eq l x; rw [dd, nodesL, nodesL]; omega
theorem vX (op : Int) (ks : List aB) : cA (mG op ks) ≤ 1 + nodesL ks := by
  unfold mG
  split
  · rw [cA, nodesL]; omega
  · have h1 := HC ux (tT (iL op ks))
    have h2 := Au (qX (iL op ks))
    have h3 := yb op ks
    generalize dd ux (tT (iL op ks)) = r at *
    split
    · rename_i x
      rw [nodesL, nodesL] at h1; omega
    · rw [cA]; omega
theorem CU (k : Int) (ks : List aB) : cA (rk k ks) ≤ 1 + nodesL ks := by
  have h := wk (fun x => !eW 2 x && !eW 3 x) ks
  unfold rk
  simp only
  generalize ks.filter (fun x => !eW 2 x && !eW 3 x) = l at *
  generalize k - ((ks.filter (eW 2)).length : Int) = n
  split
  · rw [cA, nodesL]; omega
  · split
    · rw [cA, nodesL]; omega
    · split
      · have := vX 2 l; omega
      · split
        · have := vX 3 l; omega
        · have := Au (qX l); rw [cA]; omega
theorem xb : ∀ f : aB, cA (mX f) ≤ cA f := by
  refine FF fun f ih => ?_
  have h : ∀ ks : List aB, (∀ k ∈ ks, cA (mX k) ≤ cA k) → nodesL (shapeL ks) ≤ nodesL ks := by
    intro ks
    induction ks with
    | nil => intro _; rw [shapeL]; exact Nat.le_refl _
    | cons k ks ih2 =>
      intro h
      have := ih2 (fun x hx => h x (by simp [hx]))
      have := h k (by simp)
      rw [shapeL, nodesL, nodesL]; omega
  have h := h f.Kids ih
  rw [vc, mM f]
  split
  · rw [mM]; omega
  · split
    · have := CU f.K (shapeL f.Kids); omega
    · have := vX f.Op (shapeL f.Kids); omega
theorem DD (ks : List aB) : nodesL (shapeL ks) ≤ nodesL ks := by
  induction ks with
  | nil => rw [shapeL]; exact Nat.le_refl _
  | cons k ks ih => have := xb k; rw [shapeL, nodesL, nodesL]; omega
theorem Hu : ∀ (n : Nat) (f : aB), nS f ≤ n → cA f ≤ 64 → rR f = true → ∀ s : bW, fL n s f = some (mX f, s) := by
  intro n
  induction n with
  | zero => intro f h; rw [lF] at h; omega
  | succ n ih =>
    intro f hd hn hw s
    rw [lF] at hd
    have hnf := mM f
    obtain ⟨h1, h2, h3⟩ := xr hw
    rw [fL]
    unfold kB
    rw [vc]
    by_cases c1 : f.Op = 1
    · simp only [c1, beq_self_eq_true, if_true]
    · have e1 : (f.Op == 1) = false := by simpa using c1
      simp only [e1, Bool.false_eq_true, if_false, c1]
      have key : ∀ (ks acc : List aB), (∀ k ∈ ks, k ∈ f.Kids) → wellL ks = true → nodesL (acc ++ shapeL ks) ≤ 64 → nodesL ks ≤ 64 → eT (fL n) f ks acc s = some (if f.Op = 4 then rk f.K (acc ++ shapeL ks) else mG f.Op (acc ++ shapeL ks), s) := by
        intro ks
        induction ks with
        | nil =>
          intro acc _ _ hl _
          rw [shapeL, List.append_nil] at *
          rw [eT]
          by_cases c4 : f.Op = 4
          · simp only [c4, beq_self_eq_true, if_true]
            rw [FB s f.K (by rcases h3 with h | h | h <;> omega) acc hl, Option.bind_some]
          · have e4 : (f.Op == 4) = false := by simpa using c4
            simp only [e4, Bool.false_eq_true, if_false, c4]
            rw [zq s f.Op (by rcases h3 with h | h | h <;> omega) acc hl, Option.bind_some]
        | cons k ks ih2 =>
          intro acc hk hwk hl hl2
          rw [wellL, Bool.and_eq_true] at hwk
          rw [nodesL] at hl2
          rw [shapeL] at hl
          have hacc := sm (acc ++ mX k :: shapeL ks)
          simp only [List.length_append, List.length_cons] at hacc
          rw [eT, ih k (by have := tS (hk k (by simp)); omega) (by omega) hwk.1 s, Option.bind_some, gM (by simp; omega) (by simp; omega), Option.bind_some,
            ih2 (acc ++ [mX k]) (fun z hz => hk z (by simp [hz])) hwk.2 (by rw [List.append_assoc]; exact hl) (by omega), shapeL]
          simp only [List.append_assoc, List.cons_append, List.nil_append]
      have := DD f.Kids
      have := key f.Kids [] (fun k hk => hk) h2 (by simpa using by omega) (by omega)
      simpa using this
def BP : aB := ⟨0, 0, nT, []⟩
noncomputable def tm (f : aB) : aB × Int := if fS f then (if fS (mX f) then (mX f, 0) else (BP, 12)) else (BP, 11)
theorem Ff (f : aB) (h : Gd f) : rM f = some (tm f) := by
  unfold rM tm
  rw [tP f h, Option.bind_some]
  cases hr : fS f
  · rfl
  · obtain ⟨h1, h2, h3⟩ := ye hr
    have hn := xb f
    simp only [Bool.not_true, Bool.false_eq_true, if_false, if_true]
    rw [Hu cE f (by rw [gw]; omega) h1 h3, Option.bind_some, tP (mX f) (by omega)]
    have e : (((⟨0⟩ : bW).e) != 0) = false := rfl
    simp only [e, Bool.false_eq_true, if_false, Option.bind_some]
    cases fS (mX f) <;> rfl
theorem wC {f : aB} : cA (tm f).1 ≤ 64 := by
  unfold tm
  cases h : fS f
  · exact by simp only [Bool.false_eq_true, if_false, BP]; rw [cA, nodesL]; omega
  · obtain ⟨h1, h2, h3⟩ := ye h
    have := xb f
    simp only [if_true]
    split
    · show cA (mX f) ≤ 64; omega
    · rw [BP, cA, nodesL]; omega
theorem IR (f g : aB) (hf : cA f ≤ 10000000) (hg : cA g ≤ 10000000) : rG f g = some (tm ⟨2, 0, nT, [f, g]⟩) := by
  unfold rG
  have := Ff ⟨2, 0, nT, [f, g]⟩ (by show cA _ ≤ _; rw [cA, nodesL, nodesL, nodesL]; omega)
  rw [show (⟨2, 0, (⟨zS, zS⟩ : Role), [f, g]⟩ : aB) = ⟨2, 0, nT, [f, g]⟩ from rfl, this]
  rfl
end Go.Proofs.YtmlncblocfcmiaaGreat
namespace Go.Proofs.YtmlncblocfcmiaaGreat
open Go.RowKit
mutual
def lN (v : Role → Bool) : aB → Bool
  | ⟨o, k, r, ks⟩ => if o = 1 then v r else if o = 2 then decide (evN v ks = ks.length) else if o = 3 then decide (0 < evN v ks) else decide (k ≤ (evN v ks : Int))
def evN (v : Role → Bool) : List aB → Nat
  | [] => 0
  | k :: ks => (if lN v k then 1 else 0) + evN v ks
end
theorem rF (v : Role → Bool) (f : aB) : lN v f = if f.Op = 1 then v f.Role else if f.Op = 2 then decide (evN v f.Kids = f.Kids.length) else if f.Op = 3 then decide (0 < evN v f.Kids) else decide (f.K ≤ (evN v f.Kids : Int)) := by cases f; rw [lN]
theorem Bj (v : Role → Bool) : ∀ ks : List aB, evN v ks ≤ ks.length
  | [] => by rw [evN]; exact Nat.le_refl _
  | k :: ks => by have := Bj v ks; rw [evN, List.length_cons]; split <;> omega
theorem B5 (v : Role → Bool) : ∀ ks : List aB, evN v ks = ks.length ↔ ∀ k ∈ ks, lN v k = true
  | [] => by rw [evN]; simp
  | k :: ks => by
    have h1 := Bj v ks
    have h2 := B5 v ks
    rw [evN, List.length_cons]
    simp only [List.forall_mem_cons, ← h2]
    cases lN v k <;> simp <;> omega
theorem Ck (v : Role → Bool) : ∀ ks : List aB, 0 < evN v ks ↔ ∃ k ∈ ks, lN v k = true
  | [] => by rw [evN]; simp
  | k :: ks => by
    have h2 := Ck v ks
    rw [evN]
    simp only [List.mem_cons, exists_eq_or_imp, ← h2]
    cases lN v k <;> simp <;> omega
theorem Bz (v : Role → Bool) (ks : List aB) : evN v ks = (ks.filter (lN v)).length := by
  induction ks with
  | nil => rw [evN]; rfl
  | cons k ks ih => rw [evN, ih, List.filter_cons]; cases lN v k <;> simp <;> omega
theorem HJ (v : Role → Bool) {a b : List aB} (h : a.Perm b) : evN v a = evN v b := by
  rw [Bz, Bz]; exact (h.filter _).length_eq
theorem IX {v w : Role → Bool} (h : ∀ r, v r = true → w r = true) : ∀ f : aB, lN v f = true → lN w f = true := by
  refine FF fun f ih => ?_
  have key : evN v f.Kids ≤ evN w f.Kids := by
    have : ∀ ks : List aB, (∀ k ∈ ks, lN v k = true → lN w k = true) → evN v ks ≤ evN w ks := by
      intro ks
      induction ks with
      | nil => intro _; rw [evN, evN]; exact Nat.le_refl _
      | cons k ks ih2 =>
        intro hk
        have h1 := ih2 (fun x hx => hk x (by simp [hx]))
        have h2 := hk k (by simp)
        rw [evN, evN]
        cases hv : lN v k
        · simp; omega
        · rw [h2 hv]; simp; omega
    exact this _ ih
  have hle := Bj w f.Kids
  rw [rF, rF]
  split
  · exact h _
  · split
    · simp only [decide_eq_true_eq]; omega
    · split
      · simp only [decide_eq_true_eq]; omega
      · simp only [decide_eq_true_eq]; omega
theorem zD (v : Role → Bool) (f1 : Role → Option Bool) (rec : aB → (Role → Option Bool) → Option Bool) (f : aB) : ∀ (ks : List aB) (x : Nat), (∀ k ∈ ks, rec k f1 = some (lN v k)) → x + ks.length ≤ 100000000 →
    gO rec f1 f ks (x : Int) = some (if f.Op = 2 then decide (x + evN v ks = f.Kids.length) else if f.Op = 3 then decide (0 < x + evN v ks) else decide (f.K ≤ ((x + evN v ks : Nat) : Int)))
  | [], x, _, _ => by
    rw [gO, evN, Nat.add_zero]
    by_cases c2 : f.Op = 2
    · simp only [c2, beq_self_eq_true, if_true]
      congr 1
      rw [Bool.eq_iff_iff, beq_iff_eq, decide_eq_true_eq]; omega
    · have e2 : (f.Op == 2) = false := by simpa using c2
      simp only [e2, Bool.false_eq_true, if_false, c2]
      by_cases c3 : f.Op = 3
      · simp only [c3, beq_self_eq_true, if_true]
        congr 1
        rw [Bool.eq_iff_iff, decide_eq_true_eq, decide_eq_true_eq]; omega
      · have e3 : (f.Op == 3) = false := by simpa using c3
        simp only [e3, Bool.false_eq_true, if_false, c3]
  | k :: ks, x, h, hl => by
    rw [List.length_cons] at hl
    rw [gO, h k (by simp), Option.bind_some, evN]
    cases lN v k
    · simp only [Bool.false_eq_true, if_false]
      rw [zD v f1 rec f ks x (fun z hz => h z (by simp [hz])) (by omega), Nat.zero_add]
    · simp only [if_true]
      have e : IntKind.i64.wrap ((x : Int) + 1) = ((x + 1 : Nat) : Int) := by rw [dL (by omega) (by omega)]; omega
      rw [e, zD v f1 rec f ks (x + 1) (fun z hz => h z (by simp [hz])) (by omega)]
      have e2 : x + 1 + evN v ks = x + (1 + evN v ks) := by omega
      rw [e2]
theorem Gc (v : Role → Bool) (f1 : Role → Option Bool) (hv : ∀ r, f1 r = some (v r)) : ∀ (n : Nat) (f : aB), nS f ≤ n → Gd f → kI n f f1 = some (lN v f) := by
  intro n
  induction n with
  | zero => intro f h; rw [lF] at h; omega
  | succ n ih =>
    intro f hd hn
    rw [lF] at hd
    have hnf := mM f
    have hl := sm f.Kids
    unfold Gd at hn
    rw [kI]
    unfold oH
    rw [rF]
    by_cases c1 : f.Op = 1
    · simp only [c1, beq_self_eq_true, if_true, hv, Option.bind_some]
    · have e1 : (f.Op == 1) = false := by simpa using c1
      simp only [e1, Bool.false_eq_true, if_false, c1]
      have := zD v f1 (kI n) f f.Kids 0 (fun k hk => ih k (by have := tS hk; omega) (by have := vg hk; unfold Gd; omega)) (by omega)
      simpa using this
def sU (v : Role → Bool) (f : aB) : Bool := fS f && lN v f
theorem EW (v : Role → Bool) (f1 : Role → Option Bool) (hv : ∀ r, f1 r = some (v r)) (f : aB) (h : Gd f) : oQ f f1 = some (sU v f) := by
  unfold oQ sU
  rw [tP f h, Option.bind_some]
  have := xV f
  cases fS f
  · rfl
  · unfold Gd at h
    simp only [if_true, Gc v f1 hv cE f (by rw [gw]; omega) h, Option.bind_some, Bool.true_and]
theorem BD (op : Int) (f : aB) : eW op f = true ↔ f.Op = op ∧ f.Kids = [] := by
  unfold eW; simp
theorem Cq (v : Role → Bool) {f : aB} (h : eW 2 f = true) : lN v f = true := by
  obtain ⟨h1, h2⟩ := (BD 2 f).1 h
  rw [rF, h1, h2, evN]; rfl
theorem CD (v : Role → Bool) {f : aB} (h : eW 3 f = true) : lN v f = false := by
  obtain ⟨h1, h2⟩ := (BD 3 f).1 h
  rw [rF, h1, h2, evN]; rfl
def pJ (v : Role → Bool) (ks : List aB) : Bool := ks.all (lN v)
def pT (v : Role → Bool) (ks : List aB) : Bool := ks.any (lN v)
theorem Fg (v : Role → Bool) (k : Int) (r : Role) (ks : List aB) : lN v ⟨2, k, r, ks⟩ = pJ v ks := by
  rw [rF, Bool.eq_iff_iff]; simp [pJ, B5]
theorem Gn (v : Role → Bool) (k : Int) (r : Role) (ks : List aB) : lN v ⟨3, k, r, ks⟩ = pT v ks := by
  rw [rF, Bool.eq_iff_iff]; simp [pT, Ck]
theorem Et (v : Role → Bool) : ∀ ks : List aB, pJ v (iL 2 ks) = pJ v ks
  | [] => rfl
  | k :: ks => by
    have ih := Et v ks
    unfold pJ at ih ⊢
    rw [iL, List.all_append, ih, List.all_cons]
    congr 1
    split
    · rename_i h
      obtain ⟨o, n, r, l⟩ := k
      simp only at h; subst h
      exact (Fg v n r l).symm
    · simp
theorem DF (v : Role → Bool) : ∀ ks : List aB, pT v (iL 3 ks) = pT v ks
  | [] => rfl
  | k :: ks => by
    have ih := DF v ks
    unfold pT at ih ⊢
    rw [iL, List.any_append, ih, List.any_cons]
    congr 1
    split
    · rename_i h
      obtain ⟨o, n, r, l⟩ := k
      simp only at h; subst h
      exact (Gn v n r l).symm
    · simp
theorem Gw (l : List aB) (x : aB) : x ∈ dd ux (tT l) ↔ x ∈ l := by
  rw [Gk (fun _ _ => B7), (qX l).mem_iff]
theorem GM {v : Role → Bool} {a b : List aB} (h : ∀ x, x ∈ a ↔ x ∈ b) : pJ v a = pJ v b := by
  unfold pJ; rw [Bool.eq_iff_iff, List.all_eq_true, List.all_eq_true]
  exact ⟨fun q x hx => q x ((h x).2 hx), fun q x hx => q x ((h x).1 hx)⟩
theorem G2 {v : Role → Bool} {a b : List aB} (h : ∀ x, x ∈ a ↔ x ∈ b) : pT v a = pT v b := by
  unfold pT; rw [Bool.eq_iff_iff, List.any_eq_true, List.any_eq_true]
  exact ⟨fun ⟨x, hx, q⟩ => ⟨x, (h x).1 hx, q⟩, fun ⟨x, hx, q⟩ => ⟨x, (h x).2 hx, q⟩⟩
theorem Bi (v : Role → Bool) (ks : List aB) : lN v (mG 2 ks) = pJ v ks := by
  rw [← Et]
  unfold mG
  split
  · rename_i h
    rw [show (5 - 2 : Int) = 3 from rfl, Gn]
    obtain ⟨x, hx, he⟩ := List.any_eq_true.1 h
    have : pJ v (iL 2 ks) = false := by
      unfold pJ; rw [List.all_eq_false]; exact ⟨x, hx, by rw [CD v he]; simp⟩
    rw [this]; rfl
  · rw [← GM (Gw (iL 2 ks))]
    generalize dd ux (tT (iL 2 ks)) = r
    split
    · simp [pJ]
    · exact Fg v 0 nT r
theorem Bw (v : Role → Bool) (ks : List aB) : lN v (mG 3 ks) = pT v ks := by
  rw [← DF]
  unfold mG
  split
  · rename_i h
    rw [show (5 - 3 : Int) = 2 from rfl, Fg]
    obtain ⟨x, hx, he⟩ := List.any_eq_true.1 h
    have : pT v (iL 3 ks) = true := by
      unfold pT; rw [List.any_eq_true]; exact ⟨x, hx, Cq v he⟩
    rw [this]; rfl
  · rw [← G2 (Gw (iL 3 ks))]
    generalize dd ux (tT (iL 3 ks)) = r
    split
    · simp [pT]
    · exact Gn v 0 nT r
theorem Ct (v : Role → Bool) : ∀ ks : List aB, evN v ks = (ks.filter (eW 2)).length + evN v (ks.filter fun x => !eW 2 x && !eW 3 x)
  | [] => rfl
  | k :: ks => by
    have ih := Ct v ks
    rw [evN, List.filter_cons, List.filter_cons, ih]
    cases h2 : eW 2 k
    · cases h3 : eW 3 k
      · simp only [Bool.not_false, Bool.and_self, Bool.false_eq_true, if_false, if_true]
        rw [evN]; omega
      · rw [CD v h3]; simp
    · rw [Cq v h2]; simp; omega
theorem F9 (v : Role → Bool) (k : Int) (ks : List aB) : lN v (rk k ks) = decide (k ≤ (evN v ks : Int)) := by
  have hs := Ct v ks
  unfold rk
  simp only
  generalize hl : ks.filter (fun x => !eW 2 x && !eW 3 x) = l at *
  generalize (ks.filter (eW 2)).length = m at *
  have hle := Bj v l
  have ha := B5 v l
  have hp := Ck v l
  split
  · rw [Fg]; simp [pJ]; omega
  · split
    · rw [Gn]; simp [pT]; omega
    · split
      · rw [Bi, Bool.eq_iff_iff, decide_eq_true_eq]
        unfold pJ
        rw [List.all_eq_true, ← ha]; omega
      · split
        · rw [Bw, Bool.eq_iff_iff, decide_eq_true_eq]
          unfold pT
          rw [List.any_eq_true, ← hp]; omega
        · rw [rF]
          simp only [HJ v (qX l)]
          have : ¬ ((4 : Int) = 1) := by omega
          have : ¬ ((4 : Int) = 2) := by omega
          have : ¬ ((4 : Int) = 3) := by omega
          simp only [*, if_false]
          rw [Bool.eq_iff_iff, decide_eq_true_eq, decide_eq_true_eq]; omega
theorem G9 (v : Role → Bool) : ∀ f : aB, rR f = true → lN v (mX f) = lN v f := by
  refine FF fun f ih hw => ?_
  obtain ⟨h1, h2, h3⟩ := xr hw
  rw [zy, List.all_eq_true] at h2
  have key : ∀ ks : List aB, (∀ k ∈ ks, lN v (mX k) = lN v k) → evN v (shapeL ks) = evN v ks ∧ pJ v (shapeL ks) = pJ v ks ∧ pT v (shapeL ks) = pT v ks := by
    intro ks
    induction ks with
    | nil => intro _; rw [shapeL]; exact ⟨rfl, rfl, rfl⟩
    | cons k ks ih2 =>
      intro hk
      obtain ⟨a, b, c⟩ := ih2 (fun x hx => hk x (by simp [hx]))
      have h := hk k (by simp)
      unfold pJ pT at *
      rw [shapeL, evN, evN, a, h, List.all_cons, List.all_cons, List.any_cons, List.any_cons, b, c, h]
      exact ⟨rfl, rfl, rfl⟩
  obtain ⟨a, b, c⟩ := key f.Kids (fun k hk => ih k hk (h2 k hk))
  obtain ⟨o, n, r, l⟩ := f
  simp only at *
  rw [vc]
  simp only
  rcases h3 with h | h | h
  · simp only [h.1, if_true]
  · rcases h.1 with h | h
    · subst h
      rw [Fg]
      exact (Bi v _).trans b
    · subst h
      rw [Gn]
      exact (Bw v _).trans c
  · obtain ⟨h, _⟩ := h
    subst h
    rw [rF v ⟨4, n, r, l⟩]
    exact (F9 v n _).trans (by rw [a]; rfl)
theorem G0 {f g : aB} (h : tm f = (g, 0)) : fS f = true ∧ fS g = true ∧ ∀ v, lN v g = lN v f := by
  unfold tm at h
  cases hr : fS f
  · rw [hr] at h; simp at h
  · rw [hr] at h
    simp only [if_true] at h
    cases hs : fS (mX f)
    · rw [hs] at h; simp at h
    · rw [hs] at h
      simp only [if_true, Prod.mk.injEq] at h
      obtain ⟨rfl, _⟩ := h
      exact ⟨rfl, hs, fun v => G9 v f (ye hr).2.2⟩
end Go.Proofs.YtmlncblocfcmiaaGreat
namespace Go.Proofs.YtmlncblocfcmiaaGreat
open Go.RowKit
structure PB (p : cG) : Prop where
  creds : p.Creds.length ≤ 2000000
  acks : p.Acks.length ≤ 2000000
  rel : ∀ x ∈ p.Creds, cA x.Release ≤ 10000000
  arel : ∀ a ∈ p.Acks, cA a.Release ≤ 10000000
  clo : ∀ a ∈ p.Acks, a.Closure.length ≤ 2000000
theorem AD (f : bK → Option Bool) : ∀ (l : List bK) (i : Nat), eK f l i = uj f l i
  | [], i => by rw [eK]; rfl
  | x :: l, i => by
    rw [eK, uj]
    cases f x with
    | none => rfl
    | some b =>
      simp only [Option.bind_some]
      rw [AD f l (i + 1)]
theorem AC (f : eO → Option Bool) : ∀ (l : List eO) (i : Nat), eY f l i = uj f l i
  | [], i => by rw [eY]; rfl
  | x :: l, i => by
    rw [eY, uj]
    cases f x with
    | none => rfl
    | some b =>
      simp only [Option.bind_some]
      rw [AC f l (i + 1)]
theorem D2 {α : Type} (f : α → Option Bool) (p : α → Bool) (l : List α) (h : ∀ x ∈ l, f x = some (p x)) : ((uj f l 0).bind fun r1 => some (decide (r1 ≥ 0))) = some (l.any p) := by
  rcases wy f p l 0 h with ⟨e, h1⟩ | ⟨A, x, B, rfl, h1, h2, e⟩
  · rw [e, Option.bind_some]
    have : l.any p = false := by rw [List.any_eq_false]; intro x hx; rw [h1 x hx]; simp
    rw [this]; rfl
  · rw [e, Option.bind_some]
    have : (A ++ x :: B).any p = true := by simp [h2]
    rw [this]
    congr 1
theorem FQ (f : bK → Option Bool) (p : bK → Bool) (l : List bK) (h : ∀ x ∈ l, f x = some (p x)) : gZ l f = some (l.any p) := by
  unfold gZ gL
  rw [AD]; exact D2 f p l h
theorem A8 (f : eO → Option Bool) (p : eO → Bool) (l : List eO) (h : ∀ x ∈ l, f x = some (p x)) : gW l f = some (l.any p) := by
  unfold gW iX
  rw [AC]; exact D2 f p l h
def tM (p : cG) (c : Cred) : Option bK := p.Creds.find? fun x => fB x.Signed.Cred c
theorem Ip (p : cG) (c : Cred) : ∃ z, sk p c = some (match tM p c with | some x => (x, true) | none => (z, false)) := by
  unfold sk gL tM
  rw [AD]
  rcases wy (fun x => pR x c) (fun x => fB x.Signed.Cred c) p.Creds 0 (fun x _ => rfl) with ⟨e, h1⟩ | ⟨A, x, B, hp, h1, h2, e⟩
  · rw [e, Option.bind_some, List.find?_eq_none.2 (fun x hx => by rw [h1 x hx]; simp)]
    exact ⟨_, rfl⟩
  · rw [e, Option.bind_some, hp, List.find?_append, List.find?_eq_none.2 (fun x hx => by rw [h1 x hx]; simp), List.find?_cons, h2]
    have : ¬ (((0 + A.length : Nat) : Int) < 0) := by omega
    simp only [this, decide_false, Bool.false_eq_true, if_false]
    rw [fO A x B _ (by omega)]
    exact ⟨x, rfl⟩
def JK : eO := ⟨⟨zS, zS⟩, ⟨0, 0, ⟨zS, zS⟩, []⟩, []⟩
theorem El (f : eO → Option Bool) : ∀ (n : Nat) (l : List eO) (i j : Int), fI f n l i j = yr f JK n l i j
  | 0, _, _, _ => rfl
  | n + 1, l, i, j => by
    rw [fI, yr]
    simp only [El f n]
    rfl
def ru (p : cG) (c : Cred) : List eO := p.Acks.filter fun a => sy fB a.Closure c
theorem Eb (p : cG) (hp : PB p) (c : Cred) : pQ p c = some (ru p c) := by
  have := hp.acks
  unfold pQ pZ ru
  rw [gM (by simp; omega) (by simp; omega)]
  simp only [Option.bind_some, List.nil_append, kL]
  have : kC p.Acks (fun x => lD x c) = B0 (fun x => lD x c) JK p.Acks := by
    unfold kC B0 iX
    simp only [AC, El]
  rw [this, DT _ (fun a => !sy fB a.Closure c) JK _ (by omega) (fun a _ => by unfold lD qz; rw [kL, Hs]; rfl)]
  simp only [Bool.not_not]
noncomputable def mE : aB × Int → List aB → aB × Int
  | t, [] => t
  | t, g :: l => if t.2 = 0 then mE (tm ⟨2, 0, nT, [t.1, g]⟩) l else t
theorem ES : ∀ (l : List aB) (e o k : Int) (r : Role) (ks : List aB), (∀ g ∈ l, cA g ≤ 10000000) → cA ⟨o, k, r, ks⟩ ≤ 64 →
    lO l e o k r ks = some ((mE (⟨o, k, r, ks⟩, e) l).2, (mE (⟨o, k, r, ks⟩, e) l).1.Op, (mE (⟨o, k, r, ks⟩, e) l).1.K, (mE (⟨o, k, r, ks⟩, e) l).1.Role, (mE (⟨o, k, r, ks⟩, e) l).1.Kids)
  | [], e, o, k, r, ks, _, _ => by rw [lO, mE]
  | g :: l, e, o, k, r, ks, h, hf => by
    rw [lO, mE]
    by_cases c : e = 0
    · have e1 : (e != 0) = false := by simp [c]
      simp only [e1, Bool.false_eq_true, if_false, c, if_true]
      rw [IR _ g (by omega) (h g (by simp)), Option.bind_some]
      have hn := wC (f := ⟨2, 0, nT, [⟨o, k, r, ks⟩, g]⟩)
      generalize tm ⟨2, 0, nT, [⟨o, k, r, ks⟩, g]⟩ = q at *
      obtain ⟨⟨o', k', r', ks'⟩, e'⟩ := q
      exact ES l e' o' k' r' ks' (fun z hz => h z (by simp [hz])) hn
    · have e1 : (e != 0) = true := by simp [c]
      simp only [e1, if_true, c, if_false]
noncomputable def BZ (g : aB) (l : List aB) : aB × Int := if (mE (tm g) l).2 = 0 then mE (tm g) l else (BP, (mE (tm g) l).2)
theorem IC (g : aB) (l : List aB) (hg : cA g ≤ 10000000) (hl : ∀ x ∈ l, cA x ≤ 10000000) : qE (g :: l) = some (BZ g l) := by
  unfold qE BZ
  have e0 : dK (g :: l) 0 = some g := fO [] g l 0 rfl
  have e1 : nQ (decide (0 ≤ 1) && decide ((1 : Int) ≤ ((g :: l).length : Int))) = some () := by
    rw [List.length_cons]
    have : (1 : Int) ≤ ((l.length + 1 : Nat) : Int) := by omega
    simp [nQ]; omega
  have hn := wC (f := g)
  rw [e0, Option.bind_some, Ff g (by unfold Gd; omega), Option.bind_some, e1, Option.bind_some]
  generalize tm g = q at *
  obtain ⟨⟨o, k, r, ks⟩, e⟩ := q
  have hd : (g :: l).drop (Int.toNat 1) = l := rfl
  rw [hd, ES l e o k r ks hl hn, Option.bind_some]
  generalize mE (⟨o, k, r, ks⟩, e) l = t
  obtain ⟨⟨o', k', r', ks'⟩, e'⟩ := t
  by_cases c : e' = 0
  · subst c; rfl
  · have e1 : (e' != 0) = true := by simp [c]
    simp only [e1, if_true, c, if_false]; rfl
noncomputable def jV (p : cG) (c : Cred) : aB × Int := match tM p c with | none => (BP, 42) | some x => BZ x.Release ((ru p c).map (·.Release))
theorem Ge : ∀ (l : List eO) (acc : List aB), acc.length + l.length ≤ 3000000 → mK l acc = qE (acc ++ l.map (·.Release))
  | [], acc, _ => by
    rw [mK, List.map_nil, List.append_nil]
    cases qE acc <;> rfl
  | a :: l, acc, h => by
    rw [List.length_cons] at h
    rw [mK, gM (by simp; omega) (by simp; omega), Option.bind_some, Ge l _ (by simp; omega)]
    simp
theorem Hm {p : cG} {c : Cred} {x : bK} (h : tM p c = some x) : x ∈ p.Creds ∧ x.Signed.Cred = c := by
  unfold tM at h
  have h1 := List.mem_of_find?_eq_some h
  have h2 := List.find?_some h
  exact ⟨h1, iW.1 h2⟩
theorem zj (p : cG) (hp : PB p) (c : Cred) : oJ p c = some (jV p c) := by
  unfold oJ jV
  obtain ⟨z, e⟩ := Ip p c
  rw [e, Option.bind_some]
  cases h : tM p c with
  | none => rfl
  | some x =>
    simp only [Bool.not_true, Bool.false_eq_true, if_false]
    have hx := Hm h
    have hl : (ru p c).length ≤ p.Acks.length := List.length_filter_le _ _
    have := hp.acks
    rw [Eb p hp c, Option.bind_some, Ge _ _ (by simp; omega)]
    exact IC x.Release _ (hp.rel x hx.1) (fun g hg => by
      obtain ⟨a, ha, rfl⟩ := List.mem_map.1 hg
      exact hp.arel a (List.mem_filter.1 ha).1)
theorem Cx (p : cG) (c : Cred) : cA (jV p c).1 ≤ 64 := by
  have hz : cA BP ≤ 64 := by rw [BP, cA, nodesL]; omega
  have hf : ∀ (l : List aB) (t : aB × Int), cA t.1 ≤ 64 → cA (mE t l).1 ≤ 64 := by
    intro l
    induction l with
    | nil => intro t h; exact h
    | cons g l ih =>
      intro t h
      rw [mE]
      split
      · exact ih _ wC
      · exact h
  unfold jV
  split
  · exact hz
  · unfold BZ
    split
    · exact hf _ _ wC
    · exact hz
theorem D9 : ∀ (l : List aB) (f : aB) (e : Int), (mE (f, e) l).2 = 0 → e = 0 ∧ (fS f = true → fS (mE (f, e) l).1 = true ∧ ∀ v, lN v (mE (f, e) l).1 = (lN v f && l.all (lN v)))
  | [], f, e, h => by rw [mE] at *; exact ⟨h, fun hr => ⟨hr, fun v => by simp⟩⟩
  | g :: l, f, e, h => by
    rw [mE] at *
    by_cases c : e = 0
    · simp only [c, if_true] at h ⊢
      cases ho : tm ⟨2, 0, nT, [f, g]⟩ with
      | mk q e' =>
        rw [ho] at h
        obtain ⟨h1, h2⟩ := D9 l q e' h
        subst h1
        obtain ⟨a1, a2, a3⟩ := G0 ho
        obtain ⟨b1, b2⟩ := h2 a2
        refine ⟨trivial, fun _ => ⟨b1, fun v => ?_⟩⟩
        rw [b2 v, a3 v, Fg]
        simp [pJ, Bool.and_assoc]
    · simp only [c, if_false] at h
theorem zG {p : cG} {c : Cred} (h : (jV p c).2 = 0) : fS (jV p c).1 = true ∧ ∃ x, tM p c = some x ∧ ∀ v, lN v (jV p c).1 = (lN v x.Release && (ru p c).all fun a => lN v a.Release) := by
  unfold jV at *
  cases hx : tM p c with
  | none => rw [hx] at h; simp at h
  | some x =>
    rw [hx] at h
    simp only at h ⊢
    unfold BZ at *
    by_cases c0 : (mE (tm x.Release) ((ru p c).map (·.Release))).2 = 0
    · simp only [c0, if_true] at h ⊢
      cases ho : tm x.Release with
      | mk q e =>
        rw [ho] at c0
        obtain ⟨h1, h2⟩ := D9 _ q e c0
        subst h1
        obtain ⟨a1, a2, a3⟩ := G0 ho
        obtain ⟨b1, b2⟩ := h2 a2
        refine ⟨b1, x, rfl, fun v => ?_⟩
        rw [b2 v, a3 v, List.all_map]
        rfl
    · simp only [c0, if_false] at h
def vF (F : List aT) (peer : ByteArray) (r : Role) : Bool := sy vO F ⟨r, peer⟩
theorem E2 {l : List Cred} {F : List aT} (h : xk l F) (peer : ByteArray) : ∃ m, qJ l peer = some m ∧ ∀ r, iK r m.1 m.2.1 m.2.2.1 m.2.2.2.1 m.2.2.2.2.1 m.2.2.2.2.2.1 m.2.2.2.2.2.2 = some (vF F peer r) := by
  obtain ⟨m, e, _, e2⟩ := h.mdl
  unfold qJ
  rw [e, Option.bind_some]
  refine ⟨_, rfl, fun r => ?_⟩
  unfold iK
  rw [kL]
  exact e2 r peer
noncomputable def sI (p : cG) (v : Role → Bool) (x : bK) : Bool := decide ((jV p x.Signed.Cred).2 = 0) && sU v (jV p x.Signed.Cred).1
theorem zX (p : cG) (hp : PB p) (v : Role → Bool) (m) (hv : ∀ r, iK r m.1 m.2.1 m.2.2.1 m.2.2.2.1 m.2.2.2.2.1 m.2.2.2.2.2.1 m.2.2.2.2.2.2 = some (v r)) : ∀ (l : List bK) (acc : List Cred), acc.length + l.length ≤ 1000000000 →
    jH p m l acc = re (acc ++ (l.filter (sI p v)).map (·.Signed.Cred))
  | [], acc, _ => by
    rw [jH, List.filter_nil, List.map_nil, List.append_nil, kL]
  | x :: l, acc, h => by
    rw [List.length_cons] at h
    have hn := Cx p x.Signed.Cred
    rw [jH, zj p hp, Option.bind_some, EW v _ hv _ (by unfold Gd; omega), List.filter_cons]
    unfold sI
    by_cases c : (jV p x.Signed.Cred).2 = 0
    · simp only [c, beq_self_eq_true, if_true, decide_true, Bool.true_and, Option.bind_some]
      cases ht : sU v (jV p x.Signed.Cred).1
      · simp only [Bool.false_eq_true, if_false]
        exact zX p hp v m hv l acc (by omega)
      · simp only [if_true]
        rw [gM (by simp; omega) (by simp; omega), Option.bind_some, zX p hp v m hv l _ (by simp; omega)]
        simp only [List.map_cons, List.append_assoc, List.cons_append, List.nil_append]
        rfl
    · have e : ((jV p x.Signed.Cred).2 == 0) = false := by simpa using c
      simp only [e, Bool.false_eq_true, if_false, c, decide_false, Bool.false_and, Option.bind_some]
      exact zX p hp v m hv l acc (by omega)
theorem Cl (p : cG) (hp : PB p) {l : List Cred} {F : List aT} (h : xk l F) (peer : ByteArray) : ∃ s, jS p l peer = some s ∧ ro ((p.Creds.filter (sI p (vF F peer))).map (·.Signed.Cred)) s := by
  obtain ⟨m, e, hv⟩ := E2 h peer
  have := hp.creds
  unfold jS
  rw [e, Option.bind_some, zX p hp _ m hv p.Creds [] (by simp; omega), List.nil_append]
  have h1 : (p.Creds.filter (sI p (vF F peer))).length ≤ p.Creds.length := List.length_filter_le _ _
  exact JN _ (by simp; omega)
theorem Fi (p : cG) (hp : PB p) {l : List Cred} {F : List aT} (h : xk l F) (r : Role) (peer : ByteArray) : nO p r l peer = some (!(p.Acks.any fun a => bA a.Role r && !sU (vF F peer) a.Release)) := by
  obtain ⟨m, e, hv⟩ := E2 h peer
  unfold nO
  rw [e, Option.bind_some, A8 _ (fun a => bA a.Role r && !sU (vF F peer) a.Release) _ (fun a ha => ?_)]
  · rfl
  · unfold pY
    rw [EW (vF F peer) _ hv _ (by have := hp.arel a ha; unfold Gd; omega)]
    cases bA a.Role r <;> rfl
theorem Ed (p : cG) (hp : PB p) (c : Cred) : qN p c = some ((ru p c).map (·.Role)) := by
  have h1 : ∀ (l : List eO) (acc : List Role), acc.length + l.length ≤ 1000000000 → kK l acc = some (acc ++ l.map (·.Role)) := by
    intro l
    induction l with
    | nil => intro acc _; rw [kK, List.map_nil, List.append_nil]
    | cons a l ih =>
      intro acc h
      rw [List.length_cons] at h
      rw [kK, gM (by simp; omega) (by simp; omega), Option.bind_some, ih _ (by simp; omega)]
      simp
  have := hp.acks
  have hl : (ru p c).length ≤ p.Acks.length := List.length_filter_le _ _
  unfold qN
  rw [Eb p hp c, Option.bind_some, h1 _ _ (by simp; omega), List.nil_append]
end Go.Proofs.YtmlncblocfcmiaaGreat
namespace Go.Proofs.YtmlncblocfcmiaaGreat
open Go.RowKit
theorem CM : ∀ (l m A : List Cred), l.length = m.length → ∃ b, gT (A ++ m) l A.length = some b ∧ (b = true ↔ l = m)
  | [], m, A, hl => by
    obtain rfl := List.eq_nil_of_length_eq_zero hl.symm
    exact ⟨true, rfl, by simp⟩
  | x :: l, [], A, hl => by simp at hl
  | x :: l, y :: m, A, hl => by
    have i1 : dK (A ++ y :: m) (A.length : Int) = some y := fO _ _ _ _ rfl
    rw [gT, i1, Option.bind_some]
    cases hb : fB x y with
    | false =>
      refine ⟨false, rfl, ?_⟩
      have : x ≠ y := fun hxy => by have := iW.2 hxy; rw [this] at hb; cases hb
      simp [this]
    | true =>
      have hxy := iW.1 hb
      obtain ⟨b, e2, h2⟩ := CM l m (A ++ [y]) (by simpa using hl)
      simp only [Bool.not_true, Bool.false_eq_true, if_false]
      have e3 : A ++ y :: m = (A ++ [y]) ++ m := by simp
      have e4 : A.length + 1 = (A ++ [y]).length := by simp
      rw [e3, e4, e2]
      exact ⟨b, rfl, by rw [h2]; simp [hxy]⟩
theorem JU (l m : List Cred) : ∃ b, mT l m = some b ∧ (b = true ↔ l = m) := by
  unfold mT
  by_cases h : l.length = m.length
  · have : ((l.length : Int) != (m.length : Int)) = false := by simp [h]
    simp only [this, Bool.false_eq_true, if_false]
    exact CM l m [] h
  · have : ((l.length : Int) != (m.length : Int)) = true := by simp; omega
    simp only [this, if_true]
    exact ⟨false, rfl, by simp; intro hk; rw [hk] at h; exact h rfl⟩
theorem Cu (l : List Cred) (hl : l.length ≤ 1000000000) : ∃ b, oS l = some b ∧ (b = true ↔ ro l l) := by
  obtain ⟨s, e, h⟩ := JN l hl
  obtain ⟨b, e2, h2⟩ := JU s l
  unfold oS
  rw [e, Option.bind_some, e2]
  refine ⟨b, rfl, h2.trans ⟨fun hs => ?_, fun hs => rU.unique Aa h hs⟩⟩
  rw [hs] at h; exact h
def Jo (l : List bK) : Prop := (∀ x ∈ l, x.Signed.Tag.length = 8 ∧ fS x.Release = true) ∧ ro (l.map (·.Signed.Cred)) (l.map (·.Signed.Cred))
theorem Cv : ∀ (l : List bK) (acc : List Cred), acc.length + l.length ≤ 1000000000 → (∀ x ∈ l, cA x.Release ≤ 10000000) →
    ∃ b, jN l acc = some b ∧ (b = true ↔ (∀ x ∈ l, x.Signed.Tag.length = 8 ∧ fS x.Release = true) ∧ ro (acc ++ l.map (·.Signed.Cred)) (acc ++ l.map (·.Signed.Cred)))
  | [], acc, h, _ => by
    obtain ⟨b, e, hb⟩ := Cu acc (by omega)
    rw [jN, e]
    exact ⟨b, rfl, by simpa using hb⟩
  | x :: l, acc, h, hn => by
    rw [List.length_cons] at h
    have hx := hn x (by simp)
    rw [jN, tP _ (by omega)]
    simp only [Option.bind_some]
    by_cases c1 : x.Signed.Tag.length = 8
    · have e1 : (((x.Signed.Tag.length : Int)) != 8) = false := by simp [c1]
      simp only [e1, Bool.false_eq_true, if_false, Option.bind_some]
      cases c2 : fS x.Release
      · refine ⟨false, rfl, ?_⟩
        constructor
        · intro h; cases h
        · rintro ⟨h1, _⟩
          have := (h1 x (by simp)).2
          rw [c2] at this; cases this
      · simp only [Bool.not_true, Bool.false_eq_true, if_false]
        obtain ⟨b, e, hb⟩ := Cv l (acc ++ [x.Signed.Cred]) (by simp; omega) (fun z hz => hn z (by simp [hz]))
        rw [gM (by simp; omega) (by simp; omega), Option.bind_some, e]
        refine ⟨b, rfl, hb.trans ?_⟩
        simp only [List.append_assoc, List.cons_append, List.nil_append, List.map_cons, List.forall_mem_cons]
        simp only [c1, c2, true_and]
    · have e1 : (((x.Signed.Tag.length : Int)) != 8) = true := by simp; omega
      simp only [e1, if_true, Option.bind_some]
      refine ⟨false, rfl, ?_⟩
      constructor
      · intro h; cases h
      · rintro ⟨h1, _⟩
        exact absurd (h1 x (by simp)).1 c1
def wq : Option Role → List eO → Prop
  | _, [] => True
  | q, a :: l => (∀ z, q = some z → uz z a.Role = true) ∧ wq (some a.Role) l
def Kt (l : List eO) : Prop := (∀ a ∈ l, dY a.Role = true ∧ fS a.Release = true ∧ ro a.Closure a.Closure) ∧ wq none l
theorem Iu (A : List eO) (a : eO) (l : List eO) (hA : A.length + 1 + l.length ≤ 1000000000) : ∃ b, (((if (decide (((A.length : Int)) > 0)) then (((dK (A ++ a :: l) ((IntKind.i64.wrap (((A.length : Int)) - 1))))).bind fun x2719 => (((iY x2719.Role a.Role)).bind fun r2728 => some ((decide (r2728 ≥ 0))))) else some false) : Option Bool).bind fun x2703 => some x2703) = some b ∧ (b = false ↔ ∀ z, A.getLast?.map (·.Role) = some z → uz z a.Role = true) := by
  rw [kL]
  rcases List.eq_nil_or_concat A with rfl | ⟨B, y, rfl⟩
  · exact ⟨false, rfl, by simp⟩
  · have h1 : (((B ++ [y]).length : Int)) > 0 := by simp
    simp only [List.concat_eq_append] at *
    simp only [h1, decide_true, if_true]
    have hw : IntKind.i64.wrap ((((B ++ [y]).length : Int)) - 1) = (B.length : Int) := by rw [dL (by simp) (by simp at *; omega)]; simp
    rw [hw, List.append_assoc]
    rw [show B ++ ([y] ++ a :: l) = B ++ y :: (a :: l) from rfl, fO B y (a :: l) _ rfl, Option.bind_some]
    obtain ⟨c, e, h⟩ := tb y.Role a.Role
    rw [e, Option.bind_some]
    refine ⟨_, rfl, ?_⟩
    simp only [List.getLast?_append, List.getLast?_singleton, Option.some_or, Option.map_some, Option.some.injEq]
    rw [decide_eq_false_iff_not]
    constructor
    · rintro h2 z rfl; exact h.1 (by omega)
    · intro h2; have := h.2 (h2 _ rfl); omega
theorem Er (all : List eO) : ∀ (l A : List eO), all = A ++ l → all.length ≤ 1000000000 → (∀ a ∈ l, cA a.Release ≤ 10000000 ∧ a.Closure.length ≤ 2000000) →
    ∃ b, kH all l A.length = some b ∧ (b = true ↔ (∀ a ∈ l, dY a.Role = true ∧ fS a.Release = true ∧ ro a.Closure a.Closure) ∧ wq (A.getLast?.map (·.Role)) l)
  | [], A, _, _, _ => ⟨true, by rw [kH], by simp [wq]⟩
  | a :: l, A, hall, hl, hn => by
    have ha := hn a (by simp)
    have hlen : A.length + 1 + l.length ≤ 1000000000 := by rw [hall] at hl; simp at hl; omega
    obtain ⟨b0, e0, h0⟩ := Iu A a l hlen
    rw [← hall] at e0
    obtain ⟨b1, e1, h1⟩ := Cu a.Closure (by omega)
    rw [kH, rO, tP _ (by omega), e1]
    simp only [Option.bind_some] at e0 ⊢
    rw [e0]
    rw [wq]
    simp only [List.forall_mem_cons]
    cases c1 : dY a.Role
    · exact ⟨false, by simp, by simp⟩
    · cases c2 : fS a.Release
      · exact ⟨false, by simp, by simp⟩
      · cases b1 with
        | false =>
          refine ⟨false, by simp, ?_⟩
          have : ¬ ro a.Closure a.Closure := fun h => by have := h1.2 h; cases this
          simp [this]
        | true =>
          have hs := h1.1 rfl
          cases b0 with
          | true =>
            refine ⟨false, by simp, ?_⟩
            constructor
            · intro h; cases h
            · rintro ⟨_, h, _⟩
              have := h0.2 h; cases this
          | false =>
            have hz := h0.1 rfl
            obtain ⟨b, e, hb⟩ := Er all l (A ++ [a]) (by simp [hall]) hl (fun z hz => hn z (by simp [hz]))
            rw [List.length_append, List.length_singleton] at e
            refine ⟨b, by simpa using e, hb.trans ?_⟩
            simp only [List.getLast?_append, List.getLast?_singleton, Option.some_or, Option.map_some, hs, true_and]
            exact ⟨fun ⟨p, q⟩ => ⟨p, hz, q⟩, fun ⟨p, _, q⟩ => ⟨p, q⟩⟩
def Dk (p : cG) : Bool := decide (256 < p.Creds.length) || decide (8 < p.Acks.length) || p.Acks.any fun a => decide (32 < a.Closure.length)
theorem Iw (p : cG) : sn p = some (Dk p) := by
  unfold sn Dk
  rw [A8 _ (fun a => decide (32 < a.Closure.length)) _ (fun a _ => by unfold qa; congr 1; rw [Bool.eq_iff_iff, decide_eq_true_eq, decide_eq_true_eq]; omega)]
  by_cases c1 : 256 < p.Creds.length
  · have : ((p.Creds.length : Int) > 256) := by omega
    simp [c1, this]
  · have : ¬ ((p.Creds.length : Int) > 256) := by omega
    by_cases c2 : 8 < p.Acks.length
    · have : ((p.Acks.length : Int) > 8) := by omega
      simp [c1, c2, *]
    · have : ¬ ((p.Acks.length : Int) > 8) := by omega
      simp [c1, c2, *]
theorem GT (p : cG) (hp : PB p) : qO p = some (p.Creds.all fun x => decide ((jV p x.Signed.Cred).2 = 0)) := by
  unfold qO
  rw [FQ _ (fun x => !decide ((jV p x.Signed.Cred).2 = 0)) _ (fun x _ => by
    unfold oB
    rw [zj p hp, Option.bind_some]
    rfl), Option.bind_some, List.all_eq_not_any_not]
structure Dq (p : cG) : Prop where
  name : fH p.Name = true
  long : Dk p = false
  creds : Jo p.Creds
  acks : Kt p.Acks
  guards : ∀ x ∈ p.Creds, (jV p x.Signed.Cred).2 = 0
theorem CB (p : cG) (hp : PB p) : ∃ e, iU p = some e ∧ (e = 0 ↔ Dq p) := by
  have hcl := hp.creds
  have hal := hp.acks
  obtain ⟨b1, e1, h1⟩ := Cv p.Creds [] (by simp; omega) hp.rel
  obtain ⟨b2, e2, h2⟩ := Er p.Acks p.Acks [] rfl (by omega) (fun a ha => ⟨hp.arel a ha, hp.clo a ha⟩)
  have e1' : tE p = some b1 := e1
  have e2' : uh p.Acks = some b2 := e2
  unfold iU
  rw [qA, Option.bind_some, Iw, e1', e2', GT p hp]
  simp only [Option.bind_some]
  cases c1 : fH p.Name
  · exact ⟨30, rfl, by simp; intro h; have := h.name; rw [c1] at this; cases this⟩
  · cases c2 : Dk p
    · cases b1 with
      | false => exact ⟨11, rfl, by simp; intro h; have := h1.2 h.creds; cases this⟩
      | true =>
        cases b2 with
        | false => exact ⟨11, rfl, by simp; intro h; have := h2.2 h.acks; cases this⟩
        | true =>
          cases c3 : p.Creds.all fun x => decide ((jV p x.Signed.Cred).2 = 0)
          · refine ⟨11, rfl, iff_of_false (by decide) (fun h => ?_)⟩
            obtain ⟨x, hx, hb⟩ := List.all_eq_false.1 c3
            simp [h.guards x hx] at hb
          · exact ⟨0, rfl, by simp; exact ⟨c1, c2, h1.1 rfl, h2.1 rfl, fun x hx => by simpa using List.all_eq_true.1 c3 x hx⟩⟩
    · exact ⟨12, rfl, by simp; intro h; have := h.long; rw [c2] at this; cases this⟩
theorem wY : ∀ (l : List eO) (z : Role), wq (some z) l → ∀ a ∈ l, uz z a.Role = true
  | [], z, _, a, ha => by cases ha
  | x :: l, z, h, a, ha => by
    rcases List.mem_cons.1 ha with rfl | ha
    · exact h.1 z rfl
    · exact (F6 fun _ => True).trans _ _ _ trivial trivial trivial (h.1 z rfl) (wY l x.Role h.2 a ha)
theorem Cy : ∀ (l : List eO) (q : Option Role), wq q l → ∀ a ∈ l, ∀ b ∈ l, a.Role = b.Role → a = b
  | [], q, _, a, ha, _, _, _ => by cases ha
  | x :: l, q, h, a, ha, b, hb, hab => by
    have hi : ∀ r, ¬ uz r r = true := fun r => (F6 fun _ => True).irrefl r trivial
    rcases List.mem_cons.1 ha with e1 | ha1
    · rcases List.mem_cons.1 hb with e2 | hb1
      · rw [e1, e2]
      · have := wY l x.Role h.2 b hb1
        rw [← hab, e1] at this; exact absurd this (hi _)
    · rcases List.mem_cons.1 hb with e2 | hb1
      · have := wY l x.Role h.2 a ha1
        rw [hab, e2] at this; exact absurd this (hi _)
      · exact Cy l (some x.Role) h.2 a ha1 b hb1 hab
end Go.Proofs.YtmlncblocfcmiaaGreat
namespace Go.Proofs.YtmlncblocfcmiaaGreat
open Go.RowKit
theorem IH : ∀ (n : Nat) (l : List aB), deepL l < n → ∃ r, kZ n l = some r := by
  intro n
  induction n with
  | zero => intro l h; omega
  | succ n ih =>
    intro l h
    rw [kZ]
    unfold qd
    generalize (0 : Int) = x
    induction l generalizing x with
    | nil => exact ⟨x, by rw [lC]⟩
    | cons k l ih2 =>
      rw [deepL] at h
      have := lF k
      obtain ⟨r, e⟩ := ih k.Kids (by omega)
      rw [lC, e, Option.bind_some]
      exact ih2 (by omega) _
theorem Bc (f : aB) (h : Gd f) : ∃ r, kZ cE [f] = some r := by
  unfold Gd at h
  have := xV f
  exact IH cE [f] (by rw [deepL, deepL, gw]; omega)
structure PG (p : cG) : Prop extends PB p where
  csz : ∀ x ∈ p.Creds, rf x.Signed.Cred ≤ 1000000000
  asz : ∀ a ∈ p.Acks, ∀ c ∈ a.Closure, rf c ≤ 1000000000
theorem BA : ∀ (l : List eO) (x : Int), (∀ a ∈ l, cA a.Release ≤ 10000000 ∧ a.Closure.length ≤ 2000000 ∧ ∀ c ∈ a.Closure, rf c ≤ 1000000000) → ∃ r, jM l x = some r
  | [], x, _ => ⟨x, by rw [jM]⟩
  | a :: l, x, h => by
    obtain ⟨h1, h2, h3⟩ := h a (by simp)
    obtain ⟨r1, e1⟩ := Bc a.Release (by unfold Gd; omega)
    obtain ⟨r2, e2⟩ := D8 a.Closure (by omega) h3
    rw [jM, e1, Option.bind_some, e2, Option.bind_some]
    exact BA l _ (fun z hz => h z (by simp [hz]))
theorem Jc (p : cG) (hp : PG p) : ∃ r, tF p = some r := by
  have key : ∀ (l : List bK) (x : Int), (∀ z ∈ l, z ∈ p.Creds) → ∃ r, jZ p l x = some r := by
    intro l
    induction l with
    | nil =>
      intro x _
      obtain ⟨r, e⟩ := BA p.Acks x (fun a ha => ⟨hp.arel a ha, hp.clo a ha, hp.asz a ha⟩)
      exact ⟨r, by rw [jZ, e]; rfl⟩
    | cons z l ih =>
      intro x h
      have hz := h z (by simp)
      obtain ⟨r1, e1⟩ := II [] [z.Signed] (fun s hs => by
        obtain rfl := List.mem_singleton.1 hs
        exact hp.csz z hz)
      obtain ⟨r2, e2⟩ := Bc z.Release (by have := hp.rel z hz; unfold Gd; omega)
      rw [jZ, e1]
      simp only [Option.bind_some]
      rw [e2, Option.bind_some]
      exact ih _ (fun y hy => h y (by simp [hy]))
  exact key p.Creds _ (fun z hz => hz)
theorem GA {l m : List Cred} {F G : List aT} (hF : xk l F) (hG : xk m G) (h : ∀ c ∈ l, c ∈ m) (peer : ByteArray) (r : Role) (hv : vF F peer r = true) : vF G peer r = true := by
  unfold vF at *
  rw [sh tp] at *
  have h1 := (hF.der (l.filter dJ) (fun c => by rw [List.mem_filter])).2 ⟨r, peer⟩
  have h2 := (hG.der (m.filter dJ) (fun c => by rw [List.mem_filter])).2 ⟨r, peer⟩
  rw [h1] at hv
  rw [h2]
  exact hv.mono (fun c hc => by rw [List.mem_filter] at *; exact ⟨h c hc.1, hc.2⟩)
theorem F3 {p : cG} {v w : Role → Bool} (h : ∀ r, v r = true → w r = true) (x : bK) (hx : sI p v x = true) : sI p w x = true := by
  unfold sI sU at *
  simp only [Bool.and_eq_true, decide_eq_true_eq] at *
  exact ⟨hx.1, hx.2.1, IX h _ hx.2.2⟩
theorem GE {p : cG} (hR : Dq p) {v : Role → Bool} {x : bK} (hx : sI p v x = true) {a : eO} (ha : a ∈ ru p x.Signed.Cred) : p.Acks.any (fun b => bA b.Role a.Role && !sU v b.Release) = false := by
  unfold sI sU at hx
  simp only [Bool.and_eq_true, decide_eq_true_eq] at hx
  obtain ⟨h1, h2, h3⟩ := hx
  obtain ⟨_, y, hy, he⟩ := zG h1
  rw [he v, Bool.and_eq_true, List.all_eq_true] at h3
  have hall : a ∈ p.Acks := (List.mem_filter.1 ha).1
  rw [List.any_eq_false]
  intro b hb hc
  simp only [Bool.and_eq_true] at hc
  obtain ⟨hc1, hc2⟩ := hc
  have hab : b = a := Cy p.Acks none hR.acks.2 b hb a hall (aZ.1 hc1)
  subst hab
  have := (hR.acks.1 b hb).2.1
  unfold sU at hc2
  rw [this, h3.2 b ha] at hc2
  simp at hc2
theorem Dw (p : cG) (hp : PB p) {has : List Cred} {F : List aT} (hF : xk has F) {s : List Cred} (hs : ro ((p.Creds.filter (sI p (vF F ⟨#[98, 111, 98]⟩))).map (·.Signed.Cred)) s) (b : List Cred) : ∀ l : List Cred, (∀ c ∈ l, c ∈ b) →
    fG b p has s l = some true
  | c :: l, h => by
    rw [fG, EQ, (sh iW b c).2 (h c (by simp)), Option.bind_some]
    simp only [Bool.not_true, Bool.false_eq_true, if_false]
    exact Dw p hp hF hs b l (fun z hz => h z (by simp [hz]))
  | [], _ => by
    obtain ⟨e, h1, h2⟩ := CB p hp
    rw [fG, h1, Option.bind_some]
    by_cases c : e = 0
    · have hR := h2.1 c
      have e1 : (e != 0) = false := by simp [c]
      simp only [e1, Bool.false_eq_true, if_false]
      have h3 : ∀ l : List Cred, (∀ c ∈ l, c ∈ s) → gF p has l = some (.inr ()) := by
        intro l
        induction l with
        | nil => intro _; rw [gF]
        | cons c l ih =>
          intro hl
          rw [gF, Ed p hp, Option.bind_some]
          have hc := ((hs.2 c).1 (hl c (by simp))).1
          obtain ⟨x, hx, rfl⟩ := List.mem_map.1 hc
          have hx := (List.mem_filter.1 hx).2
          have h4 : ∀ q : List eO, (∀ a ∈ q, a ∈ ru p x.Signed.Cred) → gH p has (q.map (·.Role)) = some (.inr ()) := by
            intro q
            induction q with
            | nil => intro _; rw [List.map_nil, gH]
            | cons a q ihq =>
              intro hq
              rw [List.map_cons, gH, Fi p hp hF, GE hR hx (hq a (by simp)), Option.bind_some]
              simp only [Bool.not_false, Bool.not_true, Bool.false_eq_true, if_false]
              exact ihq (fun z hz => hq z (by simp [hz]))
          rw [h4 _ (fun a ha => ha), Option.bind_some]
          exact ih (fun z hz => hl z (by simp [hz]))
      have h5 : ∀ l : List bK, (∀ x ∈ l, x ∈ p.Creds) → gE p l = some (.inr ()) := by
        intro l
        induction l with
        | nil => intro _; rw [gE]
        | cons x l ih =>
          intro hl
          have hg := hR.guards x (hl x (by simp))
          have hn := Cx p x.Signed.Cred
          rw [gE, zj p hp, Option.bind_some, tP _ (by omega), (zG hg).1]
          simp only [hg, Option.bind_some]
          exact ih (fun z hz => hl z (by simp [hz]))
      rw [h3 s (fun c hc => hc), Option.bind_some]
      simp only
      rw [h5 _ (fun x hx => hx), Option.bind_some]
    · have e1 : (e != 0) = true := by simp [c]
      simp only [e1, if_true]
theorem BF (hf : pO = some true) (p : cG) (hp : PG p) (has more : List Cred) (hl1 : has.length ≤ 10000000) (hl2 : more.length ≤ 10000000) (h1 : ∀ c ∈ has, rf c ≤ 1000000000) (h2 : ∀ c ∈ more, rf c ≤ 1000000000) : nJ p has more = some true := by
  obtain ⟨g, eg⟩ := Jc p hp
  obtain ⟨r1, e1, g1, k1⟩ := Bl has hl1 h1
  obtain ⟨r2, e2, g2, k2⟩ := Bl more hl2 h2
  have hw : IntKind.i64.wrap (r1 + r2) = r1 + r2 := dL (by omega) (by omega)
  unfold nJ
  rw [hf, eg, e1, e2]
  simp only [Option.bind_some, Bool.not_true, Bool.false_eq_true, if_false]
  have key : r1 + r2 ≤ 1000 → ((fK 136 ([]) has).bind fun l31 => (fK 136 l31 more).bind fun l37 => (jS p has (⟨#[98, 111, 98]⟩ : ByteArray)).bind fun r79 => (jS p l37 (⟨#[98, 111, 98]⟩ : ByteArray)).bind fun r88 => fG r88 p has r79 r79) = some true := by
    intro hs
    have hl : has.length + more.length ≤ 50 := by omega
    rw [gM (by simp; omega) (by simp; omega), Option.bind_some, List.nil_append, gM (by omega) (by omega), Option.bind_some]
    obtain ⟨F, hF⟩ := Ei has (by omega)
    obtain ⟨G, hG⟩ := Ei (has ++ more) (by simp; omega)
    obtain ⟨s, e3, h3⟩ := Cl p hp.toPB hF ⟨#[98, 111, 98]⟩
    obtain ⟨t, e4, h4⟩ := Cl p hp.toPB hG ⟨#[98, 111, 98]⟩
    rw [e3, Option.bind_some, e4, Option.bind_some]
    refine Dw p hp.toPB hF h3 t s (fun c hc => ?_)
    rw [h4.2]
    obtain ⟨hc1, hc2⟩ := (h3.2 c).1 hc
    refine ⟨?_, hc2⟩
    obtain ⟨x, hx, rfl⟩ := List.mem_map.1 hc1
    obtain ⟨hx1, hx2⟩ := List.mem_filter.1 hx
    exact List.mem_map.2 ⟨x, List.mem_filter.2 ⟨hx1, F3 (GA hF hG (fun c hc => by simp [hc]) _) x hx2⟩, rfl⟩
  by_cases c : g > 4000
  · simp only [c, decide_true, if_true, Option.bind_some]
  · simp only [c, decide_false, Bool.false_eq_true, if_false, Option.bind_some]
    rw [hw]
    by_cases c2 : r1 + r2 > 1000
    · simp only [c2, decide_true, if_true]
    · simp only [c2, decide_false, Bool.false_eq_true, if_false]
      exact key (by omega)
end Go.Proofs.YtmlncblocfcmiaaGreat
namespace Go.Proofs.YtmlncblocfcmiaaGreat
open Go.RowKit
def gA : Role := ⟨⟨#[97]⟩, ⟨#[114]⟩⟩
def gB : Role := ⟨⟨#[98]⟩, ⟨#[115]⟩⟩
def gX : Role := ⟨⟨#[120]⟩, ⟨#[121]⟩⟩
def sX : aB := ⟨1, 0, gA, []⟩
def si : aB := ⟨1, 0, gB, []⟩
def gc : Cred := ⟨1, gX, ⟨#[109, 101]⟩, ⟨zS, zS⟩, ⟨zS, zS⟩, zS⟩
def gx : bK := ⟨⟨gc, List.replicate 8 0⟩, si⟩
def gk : eO := ⟨gX, sX, [gc]⟩
def gp : cG := ⟨⟨#[109, 101]⟩, [gx], [gk]⟩
def oF : ByteArray := ⟨#[121, 111, 117]⟩
def gm (r : Role) : Cred := ⟨1, r, oF, ⟨zS, zS⟩, ⟨zS, zS⟩, zS⟩
theorem Kx : dJ gc = true := by decide +kernel
theorem J9 : fS sX = true := by decide +kernel
theorem Hh : fS si = true := by decide +kernel
theorem KK : dJ (gm gA) = true := by decide +kernel
theorem KB : dJ (gm gB) = true := by decide +kernel
theorem La : si ≠ sX := fun h => absurd (congrArg (fun f => f.Role.Word.data.toList) h) (by decide)
theorem zQ : PB gp where
  creds := by simp [gp]
  acks := by simp [gp]
  rel := fun x hx => by
    obtain rfl := List.mem_singleton.1 hx
    exact by decide +kernel
  arel := fun x hx => by
    obtain rfl := List.mem_singleton.1 hx
    exact by decide +kernel
  clo := fun x hx => by
    obtain rfl := List.mem_singleton.1 hx
    exact by simp [gk]
theorem Gf (c : Cred) : fB c c = true := iW.2 rfl
theorem DV : ru gp gc = [gk] := by
  unfold ru gp
  rw [List.filter_cons, (sh iW gk.Closure gc).2 (by simp [gk])]
  rfl
theorem H9 : tM gp gc = some gx := by
  unfold tM gp
  rw [List.find?_cons, show gx.Signed.Cred = gc from rfl, Gf]
theorem Dt {f : aB} (h : f.Op = 1) : mX f = f := by rw [vc, if_pos h]
theorem zr {α : Type} {a b : α} {l : List α} (h : l.Perm [a, b]) : l = [a, b] ∨ l = [b, a] := by
  match l, h with
  | [u, v], h =>
    have hu : u ∈ [a, b] := h.mem_iff.1 (by simp)
    rcases List.mem_cons.1 hu with rfl | hu
    · have := (List.perm_cons u).1 h
      rw [List.perm_singleton] at this
      left; rw [this]
    · obtain rfl := List.mem_singleton.1 hu
      have := (List.perm_cons u).1 (h.trans (List.Perm.swap u a []))
      rw [List.perm_singleton] at this
      right; rw [this]
  | [], h => have := h.length_eq; simp at this
  | [u], h => have := h.length_eq; simp at this
  | u :: v :: w :: l, h => have := h.length_eq; simp at this
theorem KO : ∃ l, tm ⟨2, 0, nT, [si, sX]⟩ = (⟨2, 0, nT, l⟩, 0) ∧ (l = [si, sX] ∨ l = [sX, si]) := by
  have hs : mX ⟨2, 0, nT, [si, sX]⟩ = ⟨2, 0, nT, tT [si, sX]⟩ := by
    rw [vc]
    have e1 : ¬ ((2 : Int) = 1) := by decide
    have e4 : ¬ ((2 : Int) = 4) := by decide
    simp only [e1, e4, if_false]
    rw [shapeL, shapeL, shapeL, Dt rfl, Dt rfl]
    have hf : iL 2 [si, sX] = [si, sX] := by
      rw [iL, iL, iL]; rfl
    unfold mG
    rw [hf, show [si, sX].any (eW (5 - 2)) = false from rfl]
    simp only [Bool.false_eq_true, if_false]
    have hp := qX [si, sX]
    rw [Ik (fun _ _ => B7) _ (hp.nodup_iff.2 (by simp [La]))]
    rcases zr hp with h | h <;> rw [h]
  refine ⟨tT [si, sX], ?_, zr (qX [si, sX])⟩
  unfold tm
  rw [hs, show fS ⟨2, 0, nT, [si, sX]⟩ = true by decide +kernel]
  rcases zr (qX [si, sX]) with h | h
  · rw [h, show fS ⟨2, 0, nT, [si, sX]⟩ = true by decide +kernel]; rfl
  · rw [h, show fS ⟨2, 0, nT, [sX, si]⟩ = true by decide +kernel]; rfl
theorem BJ : (jV gp gc).2 = 0 ∧ (jV gp gc).1.Kids.length = 2 := by
  obtain ⟨l, e, hl⟩ := KO
  have e1 : tm si = (si, 0) := by
    unfold tm
    rw [Hh, Dt rfl, Hh]; rfl
  have e2 : mE (tm gx.Release) ([gk].map (·.Release)) = (⟨2, 0, nT, l⟩, 0) := by
    rw [show gx.Release = si from rfl, e1, List.map_cons, mE, List.map_nil]
    simp only [if_true]
    rw [show gk.Release = sX from rfl, e, mE]
  have e3 : jV gp gc = (⟨2, 0, nT, l⟩, 0) := by
    unfold jV
    rw [H9, DV]
    simp only
    unfold BZ
    rw [e2]; rfl
  rw [e3]
  exact ⟨rfl, by rcases hl with h | h <;> rw [h] <;> rfl⟩
theorem Ku : jV gp ⟨0, ⟨zS, zS⟩, zS, ⟨zS, zS⟩, ⟨zS, zS⟩, zS⟩ = (BP, 42) := by
  have : tM gp ⟨0, ⟨zS, zS⟩, zS, ⟨zS, zS⟩, ⟨zS, zS⟩, zS⟩ = none := by
    unfold tM
    rw [List.find?_eq_none]
    intro x hx
    obtain rfl := List.mem_singleton.1 hx
    rw [iW]
    intro h
    exact absurd (congrArg Cred.Kind h) (by decide)
  unfold jV
  rw [this]
theorem Jh : ro [gc] [gc] := ⟨by simp, fun x => by
  constructor
  · intro hx; obtain rfl := List.mem_singleton.1 hx; exact ⟨by simp, Kx⟩
  · exact fun h => h.1⟩
theorem Jg : Dq gp where
  name := by decide +kernel
  long := rfl
  creds := ⟨fun x hx => by
    obtain rfl := List.mem_singleton.1 hx
    exact ⟨rfl, Hh⟩, Jh⟩
  acks := ⟨fun x hx => by
    obtain rfl := List.mem_singleton.1 hx
    exact ⟨by decide +kernel, J9, Jh⟩, ⟨fun z hz => (by cases hz), trivial⟩⟩
  guards := fun x hx => by
    obtain rfl := List.mem_singleton.1 hx
    exact BJ.1
theorem Ld (v : Role → Bool) : sI gp v gx = (v gB && v gA) := by
  obtain ⟨h1, x, h2, h3⟩ := zG BJ.1
  rw [H9] at h2
  obtain rfl := Option.some.inj h2
  unfold sI sU
  rw [show gx.Signed.Cred = gc from rfl, h1, BJ.1, h3 v, DV]
  have a1 : lN v gx.Release = v gB := by rw [rF]; rfl
  have a2 : lN v gk.Release = v gA := by rw [rF]; rfl
  simp [a1, a2]
theorem Ic {l : List Cred} {F : List aT} (h : xk l F) (n : Nat) (hn : n = if (vF F oF gB && vF F oF gA) then 1 else 0) : ∃ s, jS gp l oF = some s ∧ s.length = n := by
  obtain ⟨s, e, hs⟩ := Cl gp zQ h oF
  have hf : (gp.Creds.filter (sI gp (vF F oF))).map (·.Signed.Cred) = if (vF F oF gB && vF F oF gA) then [gc] else [] := by
    show ([gx].filter _).map _ = _
    rw [List.filter_cons, Ld]
    cases (vF F oF gB && vF F oF gA) <;> rfl
  rw [hf] at hs
  refine ⟨s, e, ?_⟩
  rw [hn]
  cases hc : (vF F oF gB && vF F oF gA)
  · rw [hc] at hs
    have : s = [] := List.eq_nil_iff_forall_not_mem.2 (fun x hx => by have := (hs.2 x).1 hx; simp at this)
    rw [this]; rfl
  · rw [hc] at hs
    obtain rfl := Js Kx hs
    rfl
theorem Ii {l : List Cred} {F : List aT} (h : xk l F) : nO gp gX l oF = some (vF F oF gA) := by
  rw [Fi gp zQ h]
  have : gp.Acks.any (fun a => bA a.Role gX && !sU (vF F oF) a.Release) = !vF F oF gA := by
    show [gk].any _ = _
    rw [List.any_cons, List.any_nil, Bool.or_false]
    unfold sU
    rw [show gk.Release = sX from rfl, J9, show gk.Role = gX from rfl, aZ.2 rfl, rF]
    rfl
  rw [this, Bool.not_not]
theorem gv {l : List Cred} {F : List aT} (h : xk l F) (hl : ∀ c ∈ l, c.Kind = 1) (r : Role) : vF F oF r = true ↔ ∃ c ∈ l, dJ c = true ∧ c.Head = r ∧ c.Who = oF := by
  unfold vF
  rw [sh tp, (h.der (l.filter dJ) (fun c => by rw [List.mem_filter])).2]
  constructor
  · intro hd
    generalize hf : (⟨r, oF⟩ : aT) = f at hd
    cases hd with
    | mem c hc hk =>
      rw [List.mem_filter] at hc
      injection hf with h1 h2
      exact ⟨c, hc.1, hc.2, h1.symm, h2.symm⟩
    | inc c w hc hk _ => rw [hl c (List.mem_filter.1 hc).1] at hk; exact absurd hk (by decide)
    | lnk c b w hc hk _ _ => rw [hl c (List.mem_filter.1 hc).1] at hk; exact absurd hk (by decide)
    | both c w hc hk _ _ => rw [hl c (List.mem_filter.1 hc).1] at hk; exact absurd hk (by decide)
  · rintro ⟨c, hc, hr, rfl, hw⟩
    rw [← hw]
    exact .mem c (List.mem_filter.2 ⟨hc, hr⟩) (hl c hc)
theorem KR : gA ≠ gB := fun h => absurd (congrArg (fun f => f.Word.data.toList) h) (by decide)
theorem E3 : iU gp = some 0 := by
  obtain ⟨e, h, h2⟩ := CB gp zQ
  rw [h, h2.2 Jg]
theorem HV : iU ⟨zS, [], []⟩ = some 30 := by
  unfold iU
  rw [qA, show fH (⟨zS, [], []⟩ : cG).Name = false by decide +kernel]
  rfl
theorem J1 : rC gp none = some 1 := by
  unfold rC
  rw [E3]
  rfl
theorem I6 : pO = some true := by
  have e0 : xT 1 (0 : Int) 8 = some (List.replicate 8 0) := by unfold xT; rw [if_pos (by decide)]; rfl
  obtain ⟨F2, h2⟩ := Ei [gm gA, gm gB] (by simp)
  obtain ⟨F1, h1⟩ := Ei [gm gA] (by simp)
  obtain ⟨F0, h0⟩ := Ei [] (by simp)
  have vA2 : vF F2 oF gA = true := (gv h2 (fun c hc => by simp at hc; rcases hc with rfl | rfl <;> rfl) gA).2 ⟨gm gA, by simp, KK, rfl, rfl⟩
  have vB2 : vF F2 oF gB = true := (gv h2 (fun c hc => by simp at hc; rcases hc with rfl | rfl <;> rfl) gB).2 ⟨gm gB, by simp, KB, rfl, rfl⟩
  have vB1 : vF F1 oF gB = false := by
    rw [← Bool.not_eq_true, gv h1 (fun c hc => by obtain rfl := List.mem_singleton.1 hc; rfl) gB]
    rintro ⟨c, hc, _, h, _⟩
    obtain rfl := List.mem_singleton.1 hc
    exact KR h
  have vA0 : vF F0 oF gA = false := by
    rw [← Bool.not_eq_true, gv h0 (fun c hc => by cases hc) gA]
    rintro ⟨c, hc, _⟩
    cases hc
  obtain ⟨s2, f2, l2⟩ := Ic h2 1 (by rw [vA2, vB2]; rfl)
  obtain ⟨s1, f1, l1⟩ := Ic h1 0 (by rw [vB1]; rfl)
  have t2 := Ii h2
  have t0 := Ii h0
  have a1 := zj gp zQ gc
  have a2 := zj gp zQ ⟨0, ⟨zS, zS⟩, zS, ⟨zS, zS⟩, ⟨zS, zS⟩, zS⟩
  have a3 := Ed gp zQ gc
  have a4 := E3
  have a6 := J1
  rw [Ku] at a2
  rw [DV] at a3
  rw [vA2] at t2
  rw [vA0] at t0
  unfold pO
  rw [e0]
  simp only [Option.bind_some, pF]
  unfold gm oF gp gx gk sX si gc gX gA gB at *
  rw [a1]
  simp only [Option.bind_some]
  rw [a2]
  simp only [Option.bind_some]
  have hg := BJ
  unfold gp gx gk sX si gc gX gA gB at hg
  simp only [hg.1, hg.2, beq_self_eq_true, if_true, Option.bind_some]
  simp only [show (((2 : Nat) : Int) == 2) = true from rfl, if_true, Option.bind_some, beq_self_eq_true]
  rw [a4]
  simp only [Option.bind_some, beq_self_eq_true, if_true, HV]
  rw [a3]
  simp only [Option.bind_some, List.map_cons, List.map_nil, List.length_cons, List.length_nil]
  simp only [show (((0 + 1 : Nat) : Int) == 1) = true from rfl, if_true, Option.bind_some]
  rw [f2]
  simp only [Option.bind_some, l2]
  simp only [show (((1 : Nat) : Int) == 1) = true from rfl, if_true, Option.bind_some]
  rw [show nQ (decide (0 ≤ 1) && decide ((1 : Int) ≤ ((0 + 1 + 1 : Nat) : Int))) = some () from rfl, Option.bind_some]
  rw [show ∀ a b : Cred, List.take (Int.toNat 1) [a, b] = [a] from fun _ _ => rfl, f1]
  simp only [Option.bind_some, l1]
  simp only [show (((0 : Nat) : Int) == 0) = true from rfl, if_true, Option.bind_some]
  rw [t2]
  simp only [Option.bind_some, if_true]
  rw [t0]
  simp only [Option.bind_some, if_true, Bool.not_false]
  rw [a6]
  rfl
end Go.Proofs.YtmlncblocfcmiaaGreat
namespace Go.Proofs.YtmlncblocfcmiaaGreat.Lf
open Go.ChangeShapes Go.WideShapes Go.ChangeAt Go.RowKit
open Go.Proofs.YtmlncblocfcmiaaGreat (Rows.uptoBulk Rows.uptoBulkAll Rows.uptoSmall)
theorem JV {H : Type} (d : DataW H) : 1 ≤ Rows.uptoBulk d := by
  cases d with
  | lit l => cases l <;> simp [Rows.uptoBulk]
  | nil => simp [Rows.uptoBulk]
  | ptr d => simp [Rows.uptoBulk]
  | slice elems spare => simp [Rows.uptoBulk]
  | agg parts => simp [Rows.uptoBulk]
  | iface t d => simp [Rows.uptoBulk]
  | map entries => simp [Rows.uptoBulk]
  | held h => simp [Rows.uptoBulk]
def BQ {α : Type} (P : Program) (t : TypeId) (enc : α → List Value) (sz : α → Nat) : Prop :=
  ∀ (H : Type) (eh : TypeId × Value → H) (W : World) (base : Nat) (sp : Nat → Bool) (hd : Bool) (fuel : Nat) (cs : List Value) (x : DataW H × List MemPlace),
    DataW.trod eh P W base sp hd fuel t cs = some x → ∃ a : α, cs = enc a ∧ sz a ≤ Rows.uptoBulk x.1
theorem FG {P : Program} {t : TypeId} (ht : P.underlying t = some .string) : BQ P t (fun s : ByteArray => [.string s]) (fun s => s.size) := by
  intro H eh W base sp hd fuel cs x h
  obtain ⟨s, rfl, rfl, _⟩ := DataW.trod_string ht h
  refine ⟨s, rfl, ?_⟩
  have e : s.data.toList.length = s.size := by rw [Array.length_toList]; rfl
  simp [Rows.uptoBulk, e]
theorem Is {P : Program} {t : TypeId} {k : IntKind} (ht : P.underlying t = some (.int k)) : BQ P t (fun n : Int => [.int k n]) (fun _ => 0) := by
  intro H eh W base sp hd fuel cs x h
  obtain ⟨n, rfl, rfl, _⟩ := DataW.trod_int ht h
  exact ⟨n, rfl, Nat.zero_le _⟩
theorem Jd {α : Type} {n : Nat} {p : Nat → α → Prop} (h : ∀ i, i < n → ∃ x, p i x) : ∃ l : List α, l.length = n ∧ ∀ i x, l[i]? = some x → p i x := by
  induction n with
  | zero => exact ⟨[], rfl, by simp⟩
  | succ n ih =>
    obtain ⟨l, h1, h2⟩ := ih fun i hi => h i (by omega)
    obtain ⟨x, hx⟩ := h n (by omega)
    refine ⟨l ++ [x], by simp [h1], fun i y hy => ?_⟩
    by_cases hi : i < l.length
    · rw [List.getElem?_append_left hi] at hy
      exact h2 i y hy
    · rw [List.getElem?_append_right (by omega)] at hy
      have : i - l.length = 0 := by
        cases hd : i - l.length with
        | zero => rfl
        | succ m => rw [hd] at hy; simp at hy
      rw [this] at hy
      have e : i = n := by omega
      simp at hy
      subst hy; rw [e]; exact hx
theorem DZ {W : World} {a : Addr} {v : Value} (h : W.cell? a = some v) : ∃ cs T fr, W.heap[a.block]? = some (.cells cs T fr) ∧ a.spot = none ∧ cs[a.off]? = some v := by
  unfold World.cell? at h
  split at h
  · rename_i c T fr hb
    by_cases hs : a.spot.isSome
    · simp [hs] at h
    · simp only [hs] at h
      exact ⟨c, T, fr, hb, by simpa using hs, by simpa using h⟩
  · cases h
theorem Ex.below {dd : Bool} {W W' : World} (h : Ex dd W W') : Below W.heap.size W W' := ⟨h.os, h.tape, h.output, h.size, h.old⟩
theorem yC {H : Type} {eh : TypeId × Value → H} {P : Program} (hl : laidOutB P = true) {W W' : World} {sp' : Nat → Bool} :
    ∀ {ts : List TypeId} {vs : List Value} {ds : List (DataW H)} {ps : List MemPlace}, (∀ t ∈ ts, P.readableRec t = true ∧ t < P.types.size) →
      DataW.TrodAll eh P W 0 (fun _ => true) true ts vs ds ps → (∀ p ∈ ps, W.sameAt W' p) → (∀ p ∈ ps, sp' p.block = true) → DataW.TrodAll eh P W' 0 sp' true ts vs ds ps
  | [], _, _, _, _, h, _, _ => by
    obtain ⟨rfl, rfl, rfl⟩ := trodAll_nil h
    exact trodAll_mk0
  | t :: ts, _, _, _, hr, h, h1, h2 => by
    obtain ⟨v, vs, d, ds, p, q, rfl, rfl, rfl, h3, h4⟩ := trodAll_cons h
    exact trodAll_cons_mk (WideElems.Trod_stays hl (hr t (by simp)).1 (hr t (by simp)).2 h3 (fun x hx => h1 x (by simp [hx])) (fun x hx => h2 x (by simp [hx])))
      (yC hl (fun u hu => hr u (by simp [hu])) h4 (fun x hx => h1 x (by simp [hx])) (fun x hx => h2 x (by simp [hx])))
theorem Fu {H : Type} {enc : TypeId × Value → H} {P : Program} (hl : laidOutB P = true) {f : Func} {s : ChangeSpec} {apart fresh handsOn again : Bool} {W W' : World} {args : Array Value} {v : Value} {ds gs : List (DataW H)} {before : List MemPlace}
    (hr : ∀ t ∈ f.params.toList, P.readableRec t = true ∧ t < P.types.size) (hsv : s.vars = [])
    (hW : DataW.Whole enc P f.params.toList s.vars apart W args.toList ds gs before)
    {dd : Bool} (hx : Ex dd W W')
    (hres : ∀ (b : Nat) (sp : Nat → Bool) (hd : Bool), DataW.TrodAll enc P W' b sp hd f.resultTypes.toList (v.resultList f.resultTypes.size) (s.fn H (ds ++ gs)).results [])
    (hargs : (s.fn H (ds ++ gs)).args = ds) (hvars : (s.fn H (ds ++ gs)).vars = [])
    (hok : ∀ (j : Nat) (t : TypeId) (r : Value), f.resultTypes[j]? = some t → (v.resultList f.resultTypes.size)[j]? = some r → Value.okWide P W' .any 0 t r) :
    s.post enc P f apart fresh handsOn again W args v W' := by
  have hlt := hW.lt
  have hold : ∀ p ∈ before, (fun b => decide (b < W.heap.size)) p.block = true := fun p hp => by simpa using hlt p hp
  have hb := Ex.below hx
  have hW' := hW
  obtain ⟨p, q, hA, hV, hpq, hz, hn⟩ := hW
  rw [hsv] at hV
  obtain ⟨rfl, rfl⟩ := trodVars_none hV
  rw [List.append_nil] at hpq
  subst hpq
  have hst : ∀ sp : Nat → Bool, (∀ p ∈ before, sp p.block = true) → DataW.TrodAll enc P W' 0 sp true f.params.toList args.toList (s.fn H (ds ++ [])).args before := fun sp hsp => by
    rw [hargs]
    exact yC hl hr hA (fun x hx => hb.same (hlt x hx)) hsp
  have hvs : ∀ sp : Nat → Bool, DataW.TrodVars enc P W' sp s.vars (s.fn H (ds ++ [])).vars [] := fun sp => by
    rw [hvars, hsv]; rfl
  refine ⟨ds, [], before, [], before, [], hW', hres _ _ _, hst _ hold, hvs _, World.keptBut_mono (fun p hp => ⟨hp, ?_⟩) (hb.frame (· ∈ before)), fun _ => ?_⟩
  · exact Or.inr (Or.inl hp)
  · refine ⟨hok, _, _, ([] ++ before) ++ [], ⟨[] ++ before, [], trodAll_append (hst _ (fun _ _ => rfl)) (hres _ _ _), hvs _, rfl, ?_, ?_⟩, ?_⟩
    · intro b off hp
      have hp' : MemPlace.cell b off ∈ before := by simpa using hp
      rw [World.frozen?_of_block (w := W) (hb.block b (hlt _ hp'))]
      exact hz b off hp'
    · intro ha
      simpa using hn ha
    · intro p hp _
      simpa using hp
end Go.Proofs.YtmlncblocfcmiaaGreat.Lf
namespace Go.Proofs.YtmlncblocfcmiaaGreat.Lf
open Go.ChangeShapes Go.WideShapes Go.ChangeAt Go.RowKit
open Go.Proofs.YtmlncblocfcmiaaGreat (Rows.uptoBulk Rows.uptoBulkAll Rows.uptoSmall)
def AJ {α : Type} (P : Program) (t : TypeId) (R : jX α) (sz : α → Nat) : Prop :=
  ∀ (H : Type) (eh : TypeId × Value → H) (W : World) (base : Nat) (sp : Nat → Bool) (hd : Bool) (fuel : Nat) (cs : List Value) (x : DataW H × List MemPlace),
    DataW.trod eh P W base sp hd fuel t cs = some x → ∃ a : α, R (hp W) cs a ∧ sz a ≤ Rows.uptoBulk x.1
theorem BQ.rel {α : Type} {P : Program} {t : TypeId} {enc : α → List Value} {sz : α → Nat} (h : BQ P t enc sz) : AJ P t (Pl enc) sz := fun H eh W base sp hd fuel cs x hx => h H eh W base sp hd fuel cs x hx
end Go.Proofs.YtmlncblocfcmiaaGreat.Lf
namespace Go.Proofs.YtmlncblocfcmiaaGreat.Lf
open Go.ChangeShapes Go.WideShapes Go.ChangeAt Go.RowKit
open Go.Proofs.YtmlncblocfcmiaaGreat (Rows.uptoBulk Rows.uptoBulkAll Rows.uptoSmall)
theorem Aj {H : Type} : ∀ l : List (DataW H), Rows.uptoBulkAll l = (l.map Rows.uptoBulk).sum
  | [] => by simp [Rows.uptoBulkAll]
  | d :: l => by simp [Rows.uptoBulkAll, Aj l]
theorem Gq {α : Type} (g : α → Nat) : ∀ (n : Nat) (f : Nat → Nat) {l : List α}, l.length = n → (∀ i x, l[i]? = some x → g x ≤ f i) → (l.map g).sum ≤ ((List.range n).map f).sum
  | 0, f, l, hl, h => by
    obtain rfl := List.length_eq_zero_iff.1 hl
    simp
  | n + 1, f, [], hl, h => by cases hl
  | n + 1, f, a :: l, hl, h => by
    rw [List.range_succ_eq_map, List.map_cons, List.map_cons, List.sum_cons, List.sum_cons, List.map_map]
    have h1 := h 0 a rfl
    have h2 := Gq g n (f ∘ Nat.succ) (l := l) (by simpa using hl) (fun i x hx => h (i + 1) x (by simpa using hx))
    omega
def uD {α : Type} (sz : α → Nat) (l : List α) : Nat := (l.map fun a => max 1 (sz a)).sum
theorem xJ {α : Type} (sz : α → Nat) : ∀ l : List α, l.length ≤ uD sz l
  | [] => Nat.le_refl _
  | a :: l => by have := xJ sz l; simp only [uD, List.map_cons, List.sum_cons, List.length_cons] at this ⊢; omega
theorem zl {α : Type} {sz : α → Nat} : ∀ {l : List α} {a : α}, a ∈ l → sz a ≤ uD sz l
  | b :: l, a, h => by
    simp only [uD, List.map_cons, List.sum_cons]
    rcases List.mem_cons.1 h with rfl | h
    · omega
    · have := zl (sz := sz) h; simp only [uD] at this; omega
theorem Ap {α : Type} {P : Program} {t e : TypeId} {k : Nat} {R : jX α} {sz : α → Nat} (hk : P.cellsOf e = k) (hk0 : 0 < k) (ht : P.underlying t = some (.slice e)) {H : Type} {eh : TypeId × Value → H} {W : World} {base : Nat} {sp : Nat → Bool} {held : Bool} {fuel : Nat} {cs : List Value} {x : DataW H × List MemPlace}
    (hd : ∀ (fuel : Nat) (cs : List Value) (y : DataW H × List MemPlace), DataW.trod eh P W base sp held fuel e cs = some y → SizeOf.sizeOf y.1 < SizeOf.sizeOf x.1 → ∃ a : α, R (hp W) cs a ∧ sz a ≤ Rows.uptoBulk y.1) (hf : DataW.trod eh P W base sp held fuel t cs = some x) :
    ∃ v l, cs = [v] ∧ Sl R k (hp W) v l ∧ uD sz l ≤ Rows.uptoBulk x.1 := by
  rcases Go.Deep.open_slice ht hf with ⟨rfl, rfl⟩ | ⟨a, ln, cp, m, n, D, Q, rfl, hb, hl, hm, hmm, rfl, hel⟩
  · exact ⟨_, [], rfl, ⟨none, 0, rfl, Nat.le_refl _, Nat.zero_le _, fun h => absurd h (Nat.lt_irrefl _)⟩, Nat.zero_le _⟩
  · have hlm : ln ≤ m := by rw [hmm]; split <;> omega
    have hB : ((List.range ln).map fun i => Rows.uptoBulk (D i)).sum ≤ Rows.uptoBulk (DataW.slice ((List.range ln).map D) ((List.range (m - ln)).map fun j => D (ln + j))) := by
      simp only [Rows.uptoBulk]
      rw [Aj, List.map_map]
      have e : ((List.range ln).map fun i => Rows.uptoBulk (D i)) = (List.range ln).map (Rows.uptoBulk ∘ D) := rfl
      rw [e]
      omega
    have hS : ∀ i, i < ln → SizeOf.sizeOf (D i) < SizeOf.sizeOf (DataW.slice ((List.range ln).map D) ((List.range (m - ln)).map fun j => D (ln + j))) := fun i hi => by
      have := List.sizeOf_lt_of_mem (List.mem_map.2 ⟨i, List.mem_range.2 hi, rfl⟩ : D i ∈ (List.range ln).map D)
      rw [DataW.slice.sizeOf_spec]; omega
    simp only at hd ⊢
    generalize Rows.uptoBulk (DataW.slice ((List.range ln).map D) ((List.range (m - ln)).map fun j => D (ln + j))) = B at hB
    obtain ⟨l, hl1, hl2⟩ := Jd (α := α) (n := ln) (p := fun i x => ∃ cs', W.cells? base (a.add (i * k)) k = some cs' ∧ R (hp W) cs' x ∧ sz x ≤ Rows.uptoBulk (D i)) fun i hi => by
      obtain ⟨cs', h1, h2⟩ := hel i (by omega)
      obtain ⟨x, hR, h3⟩ := hd _ _ _ h2 (hS i hi)
      rw [hk] at h1
      exact ⟨x, cs', h1, hR, h3⟩
    subst hl1
    refine ⟨_, l, rfl, ⟨some a, cp, rfl, hl, hm, fun h0 => ?_⟩, ?_⟩
    · have hget : ∀ i x, l[i]? = some x → ∃ cs', R (hp W) cs' x ∧ cs'.length = k ∧ ∀ j, j < k → W.cell? ((a.add (i * k)).add j) = cs'[j]? := fun i x hx =>
        let ⟨cs', h1, h2, _⟩ := hl2 i x hx
        let ⟨_, h3, h4⟩ := World.cells?_some h1
        ⟨cs', h2, h3, h4⟩
      obtain ⟨cs0, _, h4, h5⟩ := hget 0 l[0] (by simp [h0])
      have h6 := h5 0 hk0
      rw [Nat.zero_mul, List.getElem?_eq_getElem (by omega)] at h6
      have e0 : (a.add 0).add 0 = a := rfl
      rw [e0] at h6
      obtain ⟨cs, T, fr, h7, h8, _⟩ := DZ h6
      obtain ⟨ab, ao, asp⟩ := a
      simp only at h7 h8
      subst h8
      refine ⟨ab, ao, cs, T, fr, rfl, h7, fun i x hx => ?_⟩
      obtain ⟨cs', gR, g1, g2⟩ := hget i x hx
      refine ⟨cs', g1, gR, fun j y hy => ?_⟩
      have hj : j < k := by
        rw [← g1]
        exact (List.getElem?_eq_some_iff.1 hy).1
      have h9 := g2 j hj
      rw [Go.Deep.add_add, hy] at h9
      obtain ⟨cs'', T', fr', h10, h11, h12⟩ := DZ h9
      have hbk : (Addr.add ⟨ab, ao, none⟩ (i * k + j)).block = ab ∧ (Addr.add ⟨ab, ao, none⟩ (i * k + j)).off = ao + (i * k + j) := by
        unfold Addr.add
        split
        · rename_i hz
          rw [hz]; exact ⟨rfl, rfl⟩
        · exact ⟨rfl, rfl⟩
      rw [hbk.1, h7] at h10
      cases h10
      rw [hbk.2, ← Nat.add_assoc] at h12
      exact h12
    · refine Nat.le_trans (Gq _ _ _ rfl fun i x hx => ?_) hB
      exact Nat.max_le.2 ⟨JV _, (hl2 i x hx).elim fun _ h => h.2.2⟩
theorem tk {α : Type} {P : Program} {t e : TypeId} {k : Nat} {R : jX α} {sz : α → Nat} (hk : P.cellsOf e = k) (hk0 : 0 < k) (hd : AJ P e R sz) (ht : P.underlying t = some (.slice e)) {H : Type} {eh : TypeId × Value → H} {W : World} {base : Nat} {sp : Nat → Bool} {held : Bool} {fuel : Nat} {cs : List Value} {x : DataW H × List MemPlace}
    (hf : DataW.trod eh P W base sp held fuel t cs = some x) :
    ∃ v l, cs = [v] ∧ Sl R k (hp W) v l ∧ uD sz l ≤ Rows.uptoBulk x.1 := Ap hk hk0 ht (fun _ _ _ h _ => hd _ _ _ _ _ _ _ _ _ h) hf
theorem Am {α H : Type} {eh : TypeId × Value → H} {P : Program} {t e : TypeId} {k : Nat} {enc : α → List Value} {sz : α → Nat} (hk : P.cellsOf e = k) (hk0 : 0 < k) (hd : BQ P e enc sz)
    (ht : P.underlying t = some (.slice e)) {W : World} {base b0 : Nat} {r : Reach} {sp : Nat → Bool} {held : Bool} {v : Value} {d : DataW H} {ps : List MemPlace}
    (hval : Value.okWide P W r b0 t v) (h : DataW.Trod eh P W base sp held t v d ps) :
    ∃ l : List α, Sl (Pl enc) k (hp W) v l ∧ uD sz l ≤ Rows.uptoBulk d := by
  obtain ⟨A, ln, cp, rfl⟩ := okWide_slice ht hval
  obtain ⟨fuel, hf⟩ := h
  obtain ⟨u, l, h1, h2, h3⟩ := tk hk hk0 hd.rel ht hf
  have hc : (Value.slice A ln cp).cells.toList = [Value.slice A ln cp] := rfl
  rw [hc] at h1
  cases h1
  exact ⟨l, h2, h3⟩
end Go.Proofs.YtmlncblocfcmiaaGreat.Lf
namespace Go.Proofs.YtmlncblocfcmiaaGreat.Lf
open Go.ChangeShapes Go.WideShapes Go.ChangeAt Go.RowKit
open Go.Proofs.YtmlncblocfcmiaaGreat (Rows.uptoBulk Rows.uptoBulkAll Rows.uptoSmall)
def GV {α : Type} (R : jX α) (Q : α → Prop) : jX α := fun μ ys x => R μ ys x ∧ Q x
theorem Sl.all {α : Type} {R : jX α} {Q : α → Prop} {k : Nat} {μ : bD} {v : Value} {l : List α} (h : Sl (GV R Q) k μ v l) : Sl R k μ v l ∧ ∀ x ∈ l, Q x := by
  obtain ⟨A, c, rfl, h1, h2, h3⟩ := h
  cases l with
  | nil => exact ⟨⟨A, c, rfl, h1, h2, fun h => absurd h (by simp)⟩, by simp⟩
  | cons a l =>
    obtain ⟨b, o, cs, T, fr, e, h4, h5⟩ := h3 (by simp)
    refine ⟨⟨A, c, rfl, h1, h2, fun _ => ⟨b, o, cs, T, fr, e, h4, fun i x hx => ?_⟩⟩, fun x hx => ?_⟩
    · obtain ⟨ys, h6, h7, h8⟩ := h5 i x hx
      exact ⟨ys, h6, h7.1, h8⟩
    · obtain ⟨i, hi⟩ := List.mem_iff_getElem?.1 hx
      obtain ⟨ys, h6, h7, h8⟩ := h5 i x hi
      exact h7.2
theorem IK {P : Program} {t : TypeId} (ht : P.underlying t = some (.int .u8)) : AJ P t (GV (Pl (bV .u8)) (fun x => 0 ≤ x ∧ x < 256)) (fun _ => 0) := by
  intro H eh W base sp hd fuel cs x h
  obtain ⟨n, rfl, rfl, hw⟩ := DataW.trod_int ht h
  refine ⟨n, ⟨rfl, ?_⟩, Nat.zero_le _⟩
  simp [Lit.wf, IntKind.min, IntKind.max, IntKind.bits, IntKind.signed] at hw
  omega
end Go.Proofs.YtmlncblocfcmiaaGreat.Lf
namespace Go.Proofs.YtmlncblocfcmiaaGreat
set_option maxRecDepth 10000
open Go.ChangeShapes Go.WideShapes Go.ChangeAt Go.RowKit
open Go.Proofs.YtmlncblocfcmiaaGreat Go.Proofs.YtmlncblocfcmiaaGreat.Lf
theorem HR : Tryz.prog.cellsOf 110 = 3 := by kernel_rfl
theorem HU {α : Type} {l : List α} (h : l.length = 3) : ∃ a0 a1 a2, l = [a0, a1, a2] := by
  match l, h with
  | [a0, a1, a2], _ => exact ⟨a0, a1, a2, rfl⟩
theorem Eh : Tryz.prog.cellsOf 9 = 1 := by kernel_rfl
theorem Dm : BQ Tryz.prog 9 (fun s : ByteArray => [.string s]) (fun s => s.size) := FG Tryz.underlying9
theorem HY : Tryz.prog.cellsOf 107 = 1 := by kernel_rfl
theorem DB : Tryz.prog.cellsOf 138 = 15 := by kernel_rfl
theorem Fq {α : Type} {l : List α} (h : l.length = 2) : ∃ a0 a1, l = [a0, a1] := by
  match l, h with
  | [a0, a1], _ => exact ⟨a0, a1, rfl⟩
theorem Ko {α : Type} {l : List α} (h : l.length = 15) : ∃ a0 a1 a2 a3 a4 a5 a6 a7 a8 a9 a10 a11 a12 a13 a14, l = [a0, a1, a2, a3, a4, a5, a6, a7, a8, a9, a10, a11, a12, a13, a14] := by
  match l, h with
  | [a0, a1, a2, a3, a4, a5, a6, a7, a8, a9, a10, a11, a12, a13, a14], _ => exact ⟨a0, a1, a2, a3, a4, a5, a6, a7, a8, a9, a10, a11, a12, a13, a14, rfl⟩
theorem IQ : Tryz.prog.cellsOf 56 = 10 := by kernel_rfl
theorem xx : Tryz.prog.cellsOf 53 = 9 := by kernel_rfl
theorem G7 : BQ Tryz.prog 3 (fun n : Int => [.int .i64 n]) (fun _ => 0) := Is Tryz.underlying3
theorem Gj : Tryz.prog.cellsOf 3 = 1 := by kernel_rfl
theorem Ac : Tryz.prog.cellsOf 28 = 2 := by kernel_rfl
def ve (x : Role) : Nat := x.Owner.size + x.Word.size
theorem Bt : BQ Tryz.prog 28 aO ve := by
  intro H eh W base sp hd fuel cs x h
  obtain ⟨xs, n, _, rfl, hl, hlen, hf⟩ := DataW.trod_struct Tryz.underlying28 h
  obtain ⟨y0, y1, rfl⟩ := Fq hlen
  obtain ⟨c0, c1, rfl⟩ := Fq (hl.trans Ac)
  have h0 : DataW.trod eh Tryz.prog W base sp hd n 9 (([c0, c1].drop 0).take (Tryz.prog.cellsOf 9)) = some y0 := hf 0 _ rfl
  have h1 : DataW.trod eh Tryz.prog W base sp hd n 9 (([c0, c1].drop 1).take (Tryz.prog.cellsOf 9)) = some y1 := hf 1 _ rfl
  simp only [Eh, List.drop, List.take] at h0 h1
  obtain ⟨s0, e0, b0⟩ := Dm _ _ _ _ _ _ _ _ _ h0
  obtain ⟨s1, e1, b1⟩ := Dm _ _ _ _ _ _ _ _ _ h1
  simp only [List.cons.injEq, and_true] at e0 e1
  obtain rfl := e0
  obtain rfl := e1
  refine ⟨⟨s0, s1⟩, rfl, ?_⟩
  simp only [List.map, Rows.uptoBulk, Rows.uptoBulkAll, ve] at b0 b1 ⊢
  omega
theorem KF {α : Type} {l : List α} (h : l.length = 6) : ∃ a0 a1 a2 a3 a4 a5, l = [a0, a1, a2, a3, a4, a5] := by
  match l, h with
  | [a0, a1, a2, a3, a4, a5], _ => exact ⟨a0, a1, a2, a3, a4, a5, rfl⟩
theorem KG {α : Type} {l : List α} (h : l.length = 9) : ∃ a0 a1 a2 a3 a4 a5 a6 a7 a8, l = [a0, a1, a2, a3, a4, a5, a6, a7, a8] := by
  match l, h with
  | [a0, a1, a2, a3, a4, a5, a6, a7, a8], _ => exact ⟨a0, a1, a2, a3, a4, a5, a6, a7, a8, rfl⟩
def oY (x : Cred) : Nat := ve x.Head + x.Who.size + ve x.B + ve x.C + x.Word2.size
theorem Dj : BQ Tryz.prog 53 aI oY := by
  intro H eh W base sp hd fuel cs x h
  obtain ⟨xs, n, _, rfl, hl, hlen, hf⟩ := DataW.trod_struct Tryz.underlying53 h
  obtain ⟨y0, y1, y2, y3, y4, y5, rfl⟩ := KF hlen
  obtain ⟨c0, c1, c2, c3, c4, c5, c6, c7, c8, rfl⟩ := KG (hl.trans xx)
  have h0 : DataW.trod eh Tryz.prog W base sp hd n 3 (([c0, c1, c2, c3, c4, c5, c6, c7, c8].drop 0).take (Tryz.prog.cellsOf 3)) = some y0 := hf 0 _ rfl
  have h1 : DataW.trod eh Tryz.prog W base sp hd n 28 (([c0, c1, c2, c3, c4, c5, c6, c7, c8].drop 1).take (Tryz.prog.cellsOf 28)) = some y1 := hf 1 _ rfl
  have h2 : DataW.trod eh Tryz.prog W base sp hd n 9 (([c0, c1, c2, c3, c4, c5, c6, c7, c8].drop 3).take (Tryz.prog.cellsOf 9)) = some y2 := hf 2 _ rfl
  have h3 : DataW.trod eh Tryz.prog W base sp hd n 28 (([c0, c1, c2, c3, c4, c5, c6, c7, c8].drop 4).take (Tryz.prog.cellsOf 28)) = some y3 := hf 3 _ rfl
  have h4 : DataW.trod eh Tryz.prog W base sp hd n 28 (([c0, c1, c2, c3, c4, c5, c6, c7, c8].drop 6).take (Tryz.prog.cellsOf 28)) = some y4 := hf 4 _ rfl
  have h5 : DataW.trod eh Tryz.prog W base sp hd n 9 (([c0, c1, c2, c3, c4, c5, c6, c7, c8].drop 8).take (Tryz.prog.cellsOf 9)) = some y5 := hf 5 _ rfl
  simp only [Ac, Gj, Eh, List.drop, List.take] at h0 h1 h2 h3 h4 h5
  obtain ⟨s0, e0, b0⟩ := G7 _ _ _ _ _ _ _ _ _ h0
  obtain ⟨s1, e1, b1⟩ := Bt _ _ _ _ _ _ _ _ _ h1
  obtain ⟨s2, e2, b2⟩ := Dm _ _ _ _ _ _ _ _ _ h2
  obtain ⟨s3, e3, b3⟩ := Bt _ _ _ _ _ _ _ _ _ h3
  obtain ⟨s4, e4, b4⟩ := Bt _ _ _ _ _ _ _ _ _ h4
  obtain ⟨s5, e5, b5⟩ := Dm _ _ _ _ _ _ _ _ _ h5
  simp only [aO, List.cons.injEq, and_true] at e0 e1 e2 e3 e4 e5
  obtain rfl := e0
  obtain ⟨rfl, rfl⟩ := e1
  obtain rfl := e2
  obtain ⟨rfl, rfl⟩ := e3
  obtain ⟨rfl, rfl⟩ := e4
  obtain rfl := e5
  refine ⟨⟨s0, s1, s2, s3, s4, s5⟩, rfl, ?_⟩
  simp only [List.map, Rows.uptoBulk, Rows.uptoBulkAll, oY] at b0 b1 b2 b3 b4 b5 ⊢
  omega
theorem Io : Tryz.prog.cellsOf 54 = 1 := by kernel_rfl
theorem Jt : Tryz.prog.cellsOf 5 = 1 := by kernel_rfl
theorem Kn : AJ Tryz.prog 5 (GV (Pl (bV .u8)) (fun x => 0 ≤ x ∧ x < 256)) (fun _ => 0) := IK Tryz.underlying5
theorem ya : Tryz.prog.cellsOf 113 = 5 := by kernel_rfl
theorem KI {α : Type} {l : List α} (h : l.length = 4) : ∃ a0 a1 a2 a3, l = [a0, a1, a2, a3] := by
  match l, h with
  | [a0, a1, a2, a3], _ => exact ⟨a0, a1, a2, a3, rfl⟩
theorem KJ {α : Type} {l : List α} (h : l.length = 5) : ∃ a0 a1 a2 a3 a4, l = [a0, a1, a2, a3, a4] := by
  match l, h with
  | [a0, a1, a2, a3, a4], _ => exact ⟨a0, a1, a2, a3, a4, rfl⟩
theorem Hv : Tryz.prog.cellsOf 111 = 1 := by kernel_rfl
theorem KL {H : Type} {x : DataW H × List MemPlace} {ys : List (DataW H × List MemPlace)} {p : List MemPlace} (hx : x = (.agg (ys.map (·.1)), p)) (i : Nat) {y : DataW H × List MemPlace} (h : ys[i]? = some y) : SizeOf.sizeOf y.1 < SizeOf.sizeOf x.1 := by
  subst hx
  have := List.sizeOf_lt_of_mem (List.mem_map.2 ⟨y, List.mem_of_getElem? h, rfl⟩ : y.1 ∈ ys.map (·.1))
  simp only [DataW.agg.sizeOf_spec]; omega
theorem BG : ∀ l : List aB, nodesL l ≤ uD cA l
  | [] => Nat.le_refl _
  | k :: l => by have := BG l; rw [nodesL]; simp only [uD, List.map_cons, List.sum_cons] at this ⊢; omega
theorem Ir : ∀ (N : Nat) (H : Type) (eh : TypeId × Value → H) (W : World) (base : Nat) (sp : Nat → Bool) (hd : Bool) (fuel : Nat) (cs : List Value) (x : DataW H × List MemPlace),
    DataW.trod eh Tryz.prog W base sp hd fuel 113 cs = some x → SizeOf.sizeOf x.1 < N → ∃ a : aB, aK (hp W) cs a ∧ cA a ≤ Rows.uptoBulk x.1 := by
  intro N
  induction N with
  | zero => intro _ _ _ _ _ _ _ _ _ _ h; exact absurd h (Nat.not_lt_zero _)
  | succ N ih =>
    intro H eh W base sp hd fuel cs x h hN
    obtain ⟨xs1, n1, _, hx1, hl1, hlen1, hf1⟩ := DataW.trod_struct Tryz.underlying113 h
    obtain ⟨y1_0, y1_1, y1_2, y1_3, rfl⟩ := KI hlen1
    obtain ⟨c1_0, c1_1, c1_2, c1_3, c1_4, rfl⟩ := KJ (hl1.trans ya)
    have h1_0 : DataW.trod _ Tryz.prog W _ _ _ n1 3 (([c1_0, c1_1, c1_2, c1_3, c1_4].drop 0).take (Tryz.prog.cellsOf 3)) = some y1_0 := hf1 0 _ rfl
    have h1_1 : DataW.trod _ Tryz.prog W _ _ _ n1 3 (([c1_0, c1_1, c1_2, c1_3, c1_4].drop 1).take (Tryz.prog.cellsOf 3)) = some y1_1 := hf1 1 _ rfl
    have h1_2 : DataW.trod _ Tryz.prog W _ _ _ n1 28 (([c1_0, c1_1, c1_2, c1_3, c1_4].drop 2).take (Tryz.prog.cellsOf 28)) = some y1_2 := hf1 2 _ rfl
    have h1_3 : DataW.trod _ Tryz.prog W _ _ _ n1 111 (([c1_0, c1_1, c1_2, c1_3, c1_4].drop 4).take (Tryz.prog.cellsOf 111)) = some y1_3 := hf1 3 _ rfl
    simp only [Hv, Ac, Gj, List.drop, List.take] at h1_0 h1_1 h1_2 h1_3
    obtain ⟨s2, e2, b2⟩ := G7 _ _ _ _ _ _ _ _ _ h1_0
    simp only [List.cons.injEq, and_true] at e2
    obtain rfl := e2
    obtain ⟨s3, e3, b3⟩ := G7 _ _ _ _ _ _ _ _ _ h1_1
    simp only [List.cons.injEq, and_true] at e3
    obtain rfl := e3
    obtain ⟨s4, e4, b4⟩ := Bt _ _ _ _ _ _ _ _ _ h1_2
    simp only [aO, List.cons.injEq, and_true] at e4
    obtain ⟨rfl, rfl⟩ := e4
    obtain ⟨v5, s5, e5, q5, b5⟩ := Ap ya (by decide) Tryz.underlying111 (fun f cs y h hz => ih _ _ _ _ _ _ _ _ _ h (by have := KL hx1 3 rfl; omega)) h1_3
    simp only [List.cons.injEq, and_true] at e5
    obtain rfl := e5
    have b1 := congrArg (fun z => Rows.uptoBulk z.1) hx1
    refine ⟨⟨s2, s3, s4, s5⟩, aK.mk ⟨_, rfl, q5⟩, ?_⟩
    have hz := BG s5
    simp only [List.map, Rows.uptoBulk, Rows.uptoBulkAll] at b2 b3 b4 b5 b1 ⊢
    rw [mM]
    simp only
    omega
theorem EX : AJ Tryz.prog 113 aK cA := fun H eh W base sp hd fuel cs x h => Ir _ H eh W base sp hd fuel cs x h (Nat.lt_succ_self _)
def uc (x : bK) : Nat := oY x.Signed.Cred + uD (fun _ : Int => 0) x.Signed.Tag + cA x.Release
def GF (x : bK) : Prop := (∀ y ∈ x.Signed.Tag, 0 ≤ y ∧ y < 256)
theorem I4 : AJ Tryz.prog 138 (GV bF GF) uc := by
  intro H eh W base sp hd fuel cs x h
  obtain ⟨xs6, n6, _, hx6, hl6, hlen6, hf6⟩ := DataW.trod_struct Tryz.underlying138 h
  obtain ⟨y6_0, y6_1, rfl⟩ := Fq hlen6
  obtain ⟨c6_0, c6_1, c6_2, c6_3, c6_4, c6_5, c6_6, c6_7, c6_8, c6_9, c6_10, c6_11, c6_12, c6_13, c6_14, rfl⟩ := Ko (hl6.trans DB)
  have h6_0 : DataW.trod _ Tryz.prog W _ _ _ n6 56 (([c6_0, c6_1, c6_2, c6_3, c6_4, c6_5, c6_6, c6_7, c6_8, c6_9, c6_10, c6_11, c6_12, c6_13, c6_14].drop 0).take (Tryz.prog.cellsOf 56)) = some y6_0 := hf6 0 _ rfl
  have h6_1 : DataW.trod _ Tryz.prog W _ _ _ n6 113 (([c6_0, c6_1, c6_2, c6_3, c6_4, c6_5, c6_6, c6_7, c6_8, c6_9, c6_10, c6_11, c6_12, c6_13, c6_14].drop 10).take (Tryz.prog.cellsOf 113)) = some y6_1 := hf6 1 _ rfl
  simp only [ya, IQ, List.drop, List.take] at h6_0 h6_1
  obtain ⟨xs7, n7, _, hx7, hl7, hlen7, hf7⟩ := DataW.trod_struct Tryz.underlying56 h6_0
  obtain ⟨y7_0, y7_1, rfl⟩ := Fq hlen7
  have h7_0 : DataW.trod _ Tryz.prog W _ _ _ n7 53 (([c6_0, c6_1, c6_2, c6_3, c6_4, c6_5, c6_6, c6_7, c6_8, c6_9].drop 0).take (Tryz.prog.cellsOf 53)) = some y7_0 := hf7 0 _ rfl
  have h7_1 : DataW.trod _ Tryz.prog W _ _ _ n7 54 (([c6_0, c6_1, c6_2, c6_3, c6_4, c6_5, c6_6, c6_7, c6_8, c6_9].drop 9).take (Tryz.prog.cellsOf 54)) = some y7_1 := hf7 1 _ rfl
  simp only [xx, Io, List.drop, List.take] at h7_0 h7_1
  obtain ⟨s8, e8, b8⟩ := Dj _ _ _ _ _ _ _ _ _ h7_0
  simp only [aI, aO, List.cons.injEq, and_true] at e8
  obtain ⟨rfl, rfl, rfl, rfl, rfl, rfl, rfl, rfl, rfl⟩ := e8
  obtain ⟨v9, s9, e9, q9, b9⟩ := tk Jt (by decide) Kn Tryz.underlying54 h7_1
  simp only [List.cons.injEq, and_true] at e9
  obtain rfl := e9
  obtain ⟨q9, g9⟩ := Lf.Sl.all q9
  have b7 := congrArg (fun z => Rows.uptoBulk z.1) hx7
  obtain ⟨s10, q10, b10⟩ := EX _ _ _ _ _ _ _ _ _ h6_1
  obtain ⟨v10, e10, q10⟩ := q10.out
  simp only [List.cons.injEq, and_true] at e10
  obtain ⟨rfl, rfl, rfl, rfl, rfl⟩ := e10
  have b6 := congrArg (fun z => Rows.uptoBulk z.1) hx6
  refine ⟨⟨⟨s8, s9⟩, s10⟩, ⟨bF.mk ⟨_, _, rfl, q9, q10⟩, g9⟩, ?_⟩
  simp only [List.map, Rows.uptoBulk, Rows.uptoBulkAll, uc] at b8 b9 b7 b10 b6 ⊢
  omega
theorem HA : Tryz.prog.cellsOf 108 = 1 := by kernel_rfl
theorem Ds : Tryz.prog.cellsOf 263 = 8 := by kernel_rfl
theorem KD {α : Type} {l : List α} (h : l.length = 8) : ∃ a0 a1 a2 a3 a4 a5 a6 a7, l = [a0, a1, a2, a3, a4, a5, a6, a7] := by
  match l, h with
  | [a0, a1, a2, a3, a4, a5, a6, a7], _ => exact ⟨a0, a1, a2, a3, a4, a5, a6, a7, rfl⟩
theorem It : Tryz.prog.cellsOf 22 = 1 := by kernel_rfl
def zN (x : eO) : Nat := ve x.Role + cA x.Release + uD oY x.Closure
def Kq (x : eO) : Prop := True
theorem Jb : AJ Tryz.prog 263 (GV cD Kq) zN := by
  intro H eh W base sp hd fuel cs x h
  obtain ⟨xs11, n11, _, hx11, hl11, hlen11, hf11⟩ := DataW.trod_struct Tryz.underlying263 h
  obtain ⟨y11_0, y11_1, y11_2, rfl⟩ := HU hlen11
  obtain ⟨c11_0, c11_1, c11_2, c11_3, c11_4, c11_5, c11_6, c11_7, rfl⟩ := KD (hl11.trans Ds)
  have h11_0 : DataW.trod _ Tryz.prog W _ _ _ n11 28 (([c11_0, c11_1, c11_2, c11_3, c11_4, c11_5, c11_6, c11_7].drop 0).take (Tryz.prog.cellsOf 28)) = some y11_0 := hf11 0 _ rfl
  have h11_1 : DataW.trod _ Tryz.prog W _ _ _ n11 113 (([c11_0, c11_1, c11_2, c11_3, c11_4, c11_5, c11_6, c11_7].drop 2).take (Tryz.prog.cellsOf 113)) = some y11_1 := hf11 1 _ rfl
  have h11_2 : DataW.trod _ Tryz.prog W _ _ _ n11 22 (([c11_0, c11_1, c11_2, c11_3, c11_4, c11_5, c11_6, c11_7].drop 7).take (Tryz.prog.cellsOf 22)) = some y11_2 := hf11 2 _ rfl
  simp only [ya, It, Ac, List.drop, List.take] at h11_0 h11_1 h11_2
  obtain ⟨s12, e12, b12⟩ := Bt _ _ _ _ _ _ _ _ _ h11_0
  simp only [aO, List.cons.injEq, and_true] at e12
  obtain ⟨rfl, rfl⟩ := e12
  obtain ⟨s13, q13, b13⟩ := EX _ _ _ _ _ _ _ _ _ h11_1
  obtain ⟨v13, e13, q13⟩ := q13.out
  simp only [List.cons.injEq, and_true] at e13
  obtain ⟨rfl, rfl, rfl, rfl, rfl⟩ := e13
  obtain ⟨v14, s14, e14, q14, b14⟩ := tk xx (by decide) Dj.rel Tryz.underlying22 h11_2
  simp only [List.cons.injEq, and_true] at e14
  obtain rfl := e14
  have b11 := congrArg (fun z => Rows.uptoBulk z.1) hx11
  refine ⟨⟨s12, s13, s14⟩, ⟨cD.mk ⟨_, _, rfl, q13, q14⟩, trivial⟩, ?_⟩
  simp only [List.map, Rows.uptoBulk, Rows.uptoBulkAll, zN] at b12 b13 b14 b11 ⊢
  omega
def zP (x : cG) : Nat := x.Name.size + uD uc x.Creds + uD zN x.Acks
theorem Km : Tryz.prog.readableRec 110 = true ∧ 110 < Tryz.prog.types.size := ⟨by kernel_rfl, of_decide_eq_true (by kernel_rfl)⟩
theorem J2 : Tryz.prog.readableRec 22 = true ∧ 22 < Tryz.prog.types.size := ⟨by kernel_rfl, of_decide_eq_true (by kernel_rfl)⟩
theorem AT (c : Cred) : rf c = oY c := by unfold rf oY ve; omega
theorem Hj (x : cG) (h : zP x ≤ 1048576) : PG x := by
  unfold zP at h
  have c1 := xJ uc x.Creds
  have c2 := xJ zN x.Acks
  have g1 : ∀ y ∈ x.Creds, oY y.Signed.Cred ≤ 1048576 ∧ cA y.Release ≤ 1048576 := fun y hy => by
    have := zl (sz := uc) hy
    have e : uc y = oY y.Signed.Cred + uD (fun _ : Int => 0) y.Signed.Tag + cA y.Release := rfl
    omega
  have g2 : ∀ y ∈ x.Acks, cA y.Release ≤ 1048576 ∧ uD oY y.Closure ≤ 1048576 := fun y hy => by
    have := zl (sz := zN) hy
    have e : zN y = ve y.Role + cA y.Release + uD oY y.Closure := rfl
    omega
  refine { creds := by omega, acks := by omega, rel := fun y hy => ?_, arel := fun y hy => ?_, clo := fun y hy => ?_, csz := fun y hy => ?_, asz := fun y hy c hc => ?_ }
  · have := (g1 y hy).2; omega
  · have := (g2 y hy).1; omega
  · have := (g2 y hy).2; have := xJ oY y.Closure; omega
  · have := (g1 y hy).1; rw [AT]; omega
  · have := (g2 y hy).2; have := zl (sz := oY) hc; rw [AT]; omega
theorem yi (l : List Cred) (h : uD oY l ≤ 1048576) : l.length ≤ 10000000 ∧ ∀ c ∈ l, rf c ≤ 1000000000 := by
  have := xJ oY l
  refine ⟨by omega, fun c hc => ?_⟩
  have := zl (sz := oY) hc
  rw [AT]; omega
theorem own : ownKnob Tryz.prog.godebug = none := by kernel_rfl
theorem Hx : laidOutB Tryz.prog = true := by kernel_rfl
theorem Hi (H : Type) (enc : TypeId × Value → H) (W : World) (base : Nat) (args : Array Value) (ds gs : List (DataW H)) (before : List MemPlace)
    (hval : ∀ (j : Nat) t v, Tryz.f18.params[j]? = some t → args[j]? = some v → Value.okWide Tryz.prog W .any base t v)
    (hW : DataW.Whole enc Tryz.prog Tryz.f18.params.toList Rows.guardRisesSpec.vars false W args.toList ds gs before) (hk : Rows.uptoSmall H (ds ++ gs) = true) :
    Calls Tryz.prog 18 args W fun e W' => ∃ v, e = .returned v ∧ Rows.guardRisesSpec.post enc Tryz.prog Tryz.f18 false true false false W args v W' := by
  have hW' := hW
  obtain ⟨p, q, hA0, hV, rfl, hfz, hnd⟩ := hW
  have hA : DataW.TrodAll enc Tryz.prog W 0 (fun _ => true) true Tryz.f18.params.toList args.toList ds p := hA0
  have hr : ∀ t ∈ Tryz.f18.params.toList, Tryz.prog.readableRec t = true ∧ t < Tryz.prog.types.size := by
    rw [Tryz.params18]
    intro t ht
    simp only [List.mem_cons, List.not_mem_nil, or_false] at ht
    rcases ht with rfl | rfl | rfl
    · exact Km
    · exact J2
    · exact J2
  rw [Tryz.params18] at hA hval
  obtain ⟨v0, vs0, d0, ds0, p0, q0, hargs, rfl, rfl, h0, r0⟩ := trodAll_cons hA
  obtain ⟨v1, vs1, d1, ds1, p1, q1, rfl, rfl, rfl, h1, r1⟩ := trodAll_cons r0
  obtain ⟨v2, vs2, d2, ds2, p2, q2, rfl, rfl, rfl, h2, r2⟩ := trodAll_cons r1
  obtain ⟨rfl, rfl, rfl⟩ := trodAll_nil r2
  obtain rfl : args = #[v0, v1, v2] := by cases args; simp_all
  obtain ⟨rfl, rfl⟩ := trodVars_none hV
  have k0 := hval 0 110 v0 rfl rfl
  have k1 := hval 1 22 v1 rfl rfl
  have k2 := hval 2 22 v2 rfl rfl
  obtain ⟨ca0, rfl, _⟩ := okWide_struct Tryz.underlying110 k0
  obtain ⟨fu0, hf0⟩ := h0
  obtain ⟨la0, rfl⟩ : ∃ l : List Value, ca0 = l.toArray := ⟨ca0.toList, by simp⟩
  change DataW.trod _ _ _ _ _ _ _ _ la0 = some _ at hf0
  obtain ⟨xs15, n15, _, hx15, hl15, hlen15, hf15⟩ := DataW.trod_struct Tryz.underlying110 hf0
  obtain ⟨y15_0, y15_1, y15_2, rfl⟩ := HU hlen15
  obtain ⟨c15_0, c15_1, c15_2, rfl⟩ := HU (hl15.trans HR)
  have h15_0 : DataW.trod _ Tryz.prog W _ _ _ n15 9 (([c15_0, c15_1, c15_2].drop 0).take (Tryz.prog.cellsOf 9)) = some y15_0 := hf15 0 _ rfl
  have h15_1 : DataW.trod _ Tryz.prog W _ _ _ n15 107 (([c15_0, c15_1, c15_2].drop 1).take (Tryz.prog.cellsOf 107)) = some y15_1 := hf15 1 _ rfl
  have h15_2 : DataW.trod _ Tryz.prog W _ _ _ n15 108 (([c15_0, c15_1, c15_2].drop 2).take (Tryz.prog.cellsOf 108)) = some y15_2 := hf15 2 _ rfl
  simp only [HY, HA, Eh, List.drop, List.take] at h15_0 h15_1 h15_2
  obtain ⟨s16, e16, b16⟩ := Dm _ _ _ _ _ _ _ _ _ h15_0
  simp only [List.cons.injEq, and_true] at e16
  obtain rfl := e16
  obtain ⟨v17, s17, e17, q17, b17⟩ := tk DB (by decide) I4 Tryz.underlying107 h15_1
  simp only [List.cons.injEq, and_true] at e17
  obtain rfl := e17
  obtain ⟨q17, g17⟩ := Lf.Sl.all q17
  obtain ⟨v18, s18, e18, q18, b18⟩ := tk Ds (by decide) Jb Tryz.underlying108 h15_2
  simp only [List.cons.injEq, and_true] at e18
  obtain rfl := e18
  obtain ⟨q18, g18⟩ := Lf.Sl.all q18
  have b15 := congrArg (fun z => Rows.uptoBulk z.1) hx15
  simp only [List.map, Rows.uptoBulk, Rows.uptoBulkAll] at b16 b17 b18 b15
  have z0 : zP (⟨s16, s17, s18⟩ : cG) ≤ Rows.uptoBulk d0 := by simp only [zP]; omega
  obtain ⟨a1, s1, z1⟩ := Am (k := 9) xx (by decide) Dj Tryz.underlying22 k1 h1
  obtain ⟨a2, s2, z2⟩ := Am (k := 9) xx (by decide) Dj Tryz.underlying22 k2 h2
  have hB : Rows.uptoBulkAll ([d0, d1, d2] ++ []) ≤ 1048576 := of_decide_eq_true hk
  simp only [List.append_nil, Rows.uptoBulkAll] at hB
  have hm : nJ (⟨s16, s17, s18⟩ : cG) a1 a2 = some true := BF I6 _ (Hj _ (by omega)) _ _ (yi _ (by omega)).1 (yi _ (by omega)).1 (yi _ (by omega)).2 (yi _ (by omega)).2
  have hg := yW (⟨s16, s17, s18⟩ : cG) c15_1 c15_2 v1 a1 v2 a2 true W q17 q18 s1 s2 hm
  refine Calls.mono hg fun e W' ⟨he, hx⟩ => ?_
  subst he
  exact ⟨_, rfl, Fu Hx hr rfl hW' hx (fun _ _ _ => trodAll_cons_mk (shut_bool Tryz.underlying4 _) trodAll_mk0) rfl rfl (ok_one (by kernel_rfl) rfl (okWide_bool_mk Tryz.underlying4 _))⟩
set_option maxRecDepth 100000 in
theorem JT (os : Os) (started : os.Started) (H : Type) (enc : TypeId × Value → H) (F : Stop.Interp) :
    ReturnsInHanded {} Tryz.checked os 18 .any ((Rows.OpenSpec.upto Rows.guardRisesSpec).pre6 enc Tryz.prog Tryz.f18 Rows.guardRisesUptoRow.domain false) (((Rows.OpenSpec.upto Rows.guardRisesSpec).at F).post enc Tryz.prog Tryz.f18 false true false false) := by
  refine returnsInHanded_of_cond (C := Tryz.checked) (s := Rows.OpenSpec.upto Rows.guardRisesSpec) (k := Rows.uptoSmall) rfl own started (by kernel_rfl) Tryz.func18
    (OpenSpec.witness (enc := enc) (C := Tryz.checked) (s := Rows.OpenSpec.upto Rows.guardRisesSpec) (k := Rows.uptoSmall) rfl false ⟨#[], #[.agg #[.string ⟨#[]⟩, .slice none 0 0, .slice none 0 0], .slice none 0 0, .slice none 0 0], []⟩ 8 (by kernel_rfl) (by kernel_rfl) (by kernel_rfl)
      (x := ([.agg [.lit (.string []), .nil, .nil], .nil, .nil], [], [])) (by kernel_rfl) rfl (by kernel_rfl)) ?_
  intro W base args ds gs before hval hW _ hk _
  exact Hi H enc W base args ds gs before hval hW hk
theorem Ke {a b : Bool} (ha : a = true) (hb : b = true) : (a && b) = true := by rw [ha, hb]; rfl
set_option maxHeartbeats 40000000 in
theorem IV : joinedFacts Tryz.checked.prog 18 Tryz.f18 (Rows.OpenSpec.upto Rows.guardRisesSpec).bare Rows.guardRisesUptoRow = true := by
  unfold joinedFacts
  repeat' with_reducible refine Ke ?_ ?_
  all_goals as_aux_lemma => kernel_rfl
theorem proved : Rows.GuardRisesUptoSaid :=
  OpenClaim.holds_of_cond 18 Tryz.f18 rfl rfl rfl rfl rfl rfl rfl ⟨rfl, rfl, rfl, rfl, rfl⟩ rfl rfl rfl rfl rfl (by kernel_rfl) Tryz.func18 IV
    (of_decide_eq_true (by kernel_rfl)) (by unfold Func.isWrapper; first | (rw [if_pos (by decide +kernel)]; kernel_rfl) | (rw [if_neg (by decide +kernel)]; exact ⟨rfl, rfl⟩))
    (fun os started H enc _ F => JT os started H enc F)
end Go.Proofs.YtmlncblocfcmiaaGreat
