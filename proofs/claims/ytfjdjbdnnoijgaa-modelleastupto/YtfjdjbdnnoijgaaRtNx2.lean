/- a part of a proof of ModelLeast -/
import Derived.Test.YtfjdjbdnnoijgaaRtMx2
set_option linter.all false
namespace Go.Proofs.Ytfjdjbdnnoijgaa
open Go.RowKit
section
variable {P : Program} {ops : Array Oper} {Q : Exit → Act → World → Prop} {S : Array Bool → World → Prop}
def Closed (ops : Array Oper) (l : Array Bool) : Prop := ∀ j o, ops[j]? = some o → l.getD j true = true → ∀ e ∈ o.after, Region.binds .any e = true → l.getD e.on true = true
def chainB (ops : Array Oper) : Nat → List Nat → Bool
  | _, [] => true
  | j, k :: r => (match ops[j]? with | some o => o.after.any (fun e => Region.binds .any e && e.on == k) | none => false) && chainB ops k r
theorem chain_back {l : Array Bool} (hc : Closed ops l) : ∀ (r : List Nat) (j i : Nat), chainB ops j r = true → (j :: r).getLast? = some i → l.getD j true = true → l.getD i true = true
  | [], j, i, _, h, hj => by simp at h; subst h; exact hj
  | k :: r, j, i, h, hl, hj => by
    simp only [chainB, Bool.and_eq_true] at h
    obtain ⟨h1, h2⟩ := h
    cases ho : ops[j]? with
    | none => rw [ho] at h1; cases h1
    | some o =>
      rw [ho] at h1
      simp only [Array.any_eq_true] at h1
      obtain ⟨n, hn, h1⟩ := h1
      simp only [Bool.and_eq_true, beq_iff_eq] at h1
      have := hc j o ho hj o.after[n] (Array.getElem_mem hn) h1.1
      rw [h1.2] at this
      exact chain_back hc r k i h2 (by simpa [List.getLast?_cons_cons] using hl) this
def Pend (ops : Array Oper) (i : Nat) (l : Array Bool) : Prop := Closed ops l ∧ l.getD i true = false
theorem Pend.bar {l : Array Bool} {i : Nat} (h : Pend ops i l) (j : Nat) (r : List Nat) (hc : chainB ops j r = true) (hl : (j :: r).getLast? = some i) : l.getD j true = false := by
  cases hj : l.getD j true with
  | false => rfl
  | true => have := chain_back h.1 r j i hc hl hj; rw [h.2] at this; cases this
theorem Closed.start (n : Nat) (h : n = ops.size) : Closed ops (Array.replicate n false) := by
  subst h
  intro j o ho hj
  have hlt : j < ops.size := (Array.getElem?_eq_some_iff.1 ho).1
  simp [hlt] at hj
theorem Closed.set {l : Array Bool} {i : Nat} (h : Closed ops l) (hr : i ∈ Region.ready .any ops l) : Closed ops (l.setIfInBounds i true) := by
  intro j o ho hj e he hb
  have up : ∀ {k : Nat}, l.getD k true = true → (l.setIfInBounds i true).getD k true = true := fun {k} hk => by
    by_cases hik : i = k
    · subst hik
      by_cases hs : i < l.size
      · simp [hs]
      · simp [hs]
    · rw [getD_set_ne true hik]; exact hk
  by_cases hij : i = j
  · subst hij
    obtain ⟨_, o', ho', hall⟩ := mem_ready.1 hr
    rw [ho] at ho'
    cases ho'
    refine up ?_
    have := hall e he hb
    by_cases hs : e.on < l.size
    · simp [hs] at this ⊢; exact this
    · simp [hs]
  · rw [getD_set_ne true hij] at hj
    exact up (h j o ho hj e he hb)
def YieldsL (P : Program) (ops : Array Oper) (S : Array Bool → World → Prop) (i : Nat) (o : Oper) (v : Value) (a : Act) : Prop :=
  (Region.wanted o (yielded ops a.tmps) = true ∧ ∀ l w, Pend ops i l → S l w → (execOp a.eval o).run P w = .ok (.value v) w) ∨
  (Region.wanted o (yielded ops a.tmps) = false ∧ v = undef)
theorem YieldsL.if_ {i : Nat} {o : Oper} {v : Value} {a : Act} {l : Array Bool} (h : YieldsL P ops S i o v a) (hp : Pend ops i l) : YieldsIf P ops (S l) o v a :=
  h.imp (fun ⟨h1, h2⟩ => ⟨h1, fun w hw => h2 l w hp hw⟩) id
def wpL (P : Program) (ops : Array Oper) (Q : Exit → Act → World → Prop) (S : Array Bool → World → Prop) : Nat → Array Bool → Act → World → Prop
  | 0, l, a, w => Region.ready .any ops l = [] ∧ Q .normal a w
  | n + 1, l, a, w => (Region.ready .any ops l = [] → Q .normal a w) ∧
    ∀ i ∈ Region.ready .any ops l, wpOp P ops Q i (fun a' w' => S (l.setIfInBounds i true) w' ∧ wpL P ops Q S n (l.setIfInBounds i true) a' w') a w
theorem wpL_any : ∀ (n : Nat) (l : Array Bool) (a : Act) (w : World), wpL P ops Q S n l a w → wpAny P .any ops Q n l a w
  | 0, _, _, _, h => h
  | n + 1, _, _, _, h => ⟨h.1, fun i hi => wpOp_mono (fun a' w' h' => wpL_any n _ a' w' h'.2) (h.2 i hi)⟩
theorem wpOp_putL {i j : Nat} {oi oj : Oper} {v : Value} (hj : ops[j]? = some oj) (hap : oi.apart ops oj = true) (hsi : ∀ cs b, oi.op ≠ .select cs b) (hsj : ∀ cs b, oj.op ≠ .select cs b)
    (hQ : ∀ c a w, Q (.panic c) (a.put oi.dst v) w → Q (.panic c) a w) {K : Act → World → Prop} {a : Act} {w : World} (hy : YieldsL P ops S i oi v a) (h : wpOp P ops Q j K (a.put oi.dst v) w) :
    wpOp P ops Q j (fun a' w' => YieldsL P ops S i oi v a' ∧ K (a'.put oi.dst v) w') a w := by
  have h1 : YieldsIf P ops (fun w => ∃ l, Pend ops i l ∧ S l w) oi v a := hy.imp (fun ⟨h1, h2⟩ => ⟨h1, fun w ⟨l, hp, hw⟩ => h2 l w hp hw⟩) id
  refine wpOp_mono (fun a' w' h' => ⟨h'.1.imp (fun ⟨h1, h2⟩ => ⟨h1, fun l w hp hw => h2 w ⟨l, hp, hw⟩⟩) id, h'.2⟩) (wpOp_putIf (S := fun w => ∃ l, Pend ops i l ∧ S l w) hj hap hsi hsj hQ h1 h)
theorem wpL_first {i : Nat} {oi : Oper} {v : Value} (hi : ops[i]? = some oi) (hsel : ∀ (j : Nat) (o : Oper) cs b, ops[j]? = some o → o.op ≠ .select cs b) (hQ : ∀ c a w, Q (.panic c) (a.put oi.dst v) w → Q (.panic c) a w)
    (hm : ∀ l w, S (l.setIfInBounds i true) w → S l w) :
    ∀ (n : Nat) (l : Array Bool) (a : Act) (w : World), (∀ j oj, ops[j]? = some oj → j ≠ i → l.getD j true = false → (∀ e ∈ oj.after, Region.binds .any e = true → e.on ≠ i) → oi.apart ops oj = true) →
      Closed ops l → i ∈ Region.ready .any ops l → YieldsL P ops S i oi v a → S (l.setIfInBounds i true) w → wpL P ops Q S n (l.setIfInBounds i true) (a.put oi.dst v) w → wpL P ops Q S (n + 1) l a w := by
  intro n
  induction n with
  | zero =>
    intro l a w _ hc hr hy hS H
    refine ⟨fun h => (by rw [h] at hr; cases hr), fun j hj => ?_⟩
    by_cases hji : j = i
    · subst hji
      exact (hy.if_ ⟨hc, (mem_ready.1 hr).1⟩).wpOp hi (hm l w hS) ⟨hS, H⟩
    · have := ready_mono hj hji
      rw [H.1] at this
      cases this
  | succ n ih =>
    intro l a w hfree hc hr hy hS H
    refine ⟨fun h => (by rw [h] at hr; cases hr), fun j hj => ?_⟩
    by_cases hji : j = i
    · subst hji
      exact (hy.if_ ⟨hc, (mem_ready.1 hr).1⟩).wpOp hi (hm l w hS) ⟨hS, H⟩
    have h1 := H.2 j (ready_mono hj hji)
    obtain ⟨hjun, oj, hoj, hall⟩ := mem_ready.1 hj
    have hnot : ∀ e ∈ oj.after, Region.binds .any e = true → e.on ≠ i := fun e he hb heq => by
      have h2 := hall e he hb
      have h0 := (mem_ready.1 hr).1
      rw [heq] at h2
      rcases Nat.lt_or_ge i l.size with h' | h'
      · simp [h'] at h0 h2; rw [h0] at h2; cases h2
      · simp [Array.getElem?_eq_none h'] at h2
    have h2 := wpOp_putL hoj (hfree j oj hoj hji hjun hnot) (fun cs b => hsel i oi cs b hi) (fun cs b => hsel j oj cs b hoj) hQ hy h1
    have hfree' : ∀ k ok, ops[k]? = some ok → k ≠ i → (l.setIfInBounds j true).getD k true = false → (∀ e ∈ ok.after, Region.binds .any e = true → e.on ≠ i) → oi.apart ops ok = true := fun k ok hk hki hun hno => by
      refine hfree k ok hk hki ?_ hno
      by_cases hjk : j = k
      · subst hjk; exact hjun
      · rw [getD_set_ne true hjk] at hun; exact hun
    have hcomm : (l.setIfInBounds i true).setIfInBounds j true = (l.setIfInBounds j true).setIfInBounds i true := Array.setIfInBounds_comm _ _ (Ne.symm hji)
    refine wpOp_mono (fun a' w' h3 => ?_) h2
    have h4 : S ((l.setIfInBounds j true).setIfInBounds i true) w' := by rw [← hcomm]; exact h3.2.1
    refine ⟨hm _ w' h4, ih (l.setIfInBounds j true) a' w' hfree' (hc.set hj) (ready_mono hr (Ne.symm hji)) h3.1 h4 ?_⟩
    rw [← hcomm]
    exact h3.2.2
end
def PX (P : Program) (n : Nat) (ops : Array Oper) (Q : Post) (S : Array Bool → World → Prop) (fuel : Nat) (listed : Array Bool) (E : Nat → Value) (W : World) : Prop :=
  Closed ops listed → ∀ a, Ag n a E → wpL P ops (lift n Q) S fuel listed a W
section
variable {P : Program} {n : Nat} {Q : Post} {E : Nat → Value} {W : World} {ops : Array Oper} {S : Array Bool → World → Prop} {fuel : Nat} {listed : Array Bool}
theorem PX_start {id : Nat} {l : List Oper} (S : Array Bool → World → Prop) (hm : P.follows .mixedOrders = true) (h : PX P n l.toArray Q S l.length (Array.replicate l.length false) E W.drew) : CW P n (.region id l.toArray true) Q E W := fun a ha =>
  wp_region_any hm (wpL_any _ _ _ _ (h (Closed.start _ (by simp)) a ha))
structure Ok (ops : Array Oper) (listed : Array Bool) (i : Nat) : Prop where
  sel : Region.noSelect ops = true
  free : Region.free .any ops listed i = true
  ready : (Region.ready .any ops listed).contains i = true
def okB (ops : Array Oper) (listed : Array Bool) (i : Nat) : Bool := Region.noSelect ops && Region.free .any ops listed i && (Region.ready .any ops listed).contains i
theorem PX_v {o : Oper} {dd : Nat} {v : Value} (i : Nat) (hi : ops[i]? = some o) (hk : okB ops listed i = true) (hw : Wanted n ops E o) (hd : o.dst = some dd) (hn : dd < n) (hm : ∀ l w, S (l.setIfInBounds i true) w → S l w) (hS : S (listed.setIfInBounds i true) W)
    (hy : ∀ l W, Pend ops i l → S l W → Runs P E o W v W) (h : PX P n ops Q S fuel (listed.setIfInBounds i true) (upd E dd v) W) : PX P n ops Q S (fuel + 1) listed E W := fun hc a ha => by
  simp only [okB, Bool.and_eq_true] at hk
  have hr : i ∈ Region.ready .any ops listed := by simpa using hk.2
  exact wpL_first hi (Region.noSelect_spec hk.1.1) (fun _ _ _ h => h) hm fuel listed a W (Region.free_spec hi hk.1.2) hc hr (.inl ⟨hw.of ha, fun l w hp hw' => by rw [ha.eval]; exact hy l w hp hw'⟩) hS (by rw [hd]; exact h (hc.set hr) _ (ha.put hn v))
theorem PX_q {A : Value → Prop} {o : Oper} {dd : Nat} (i : Nat) (hi : ops[i]? = some o) (hk : okB ops listed i = true) (hw : Wanted n ops E o) (hd : o.dst = some dd) (hn : dd < n) (hm : ∀ l w, S (l.setIfInBounds i true) w → S l w) (hS : S (listed.setIfInBounds i true) W)
    (hy : ∃ p, A p ∧ ∀ W, Runs P E o W p W) (h : ∀ p, A p → PX P n ops Q S fuel (listed.setIfInBounds i true) (upd E dd p) W) : PX P n ops Q S (fuel + 1) listed E W := by
  obtain ⟨p, h1, h2⟩ := hy
  exact PX_v i hi hk hw hd hn hm hS (fun _ W _ _ => h2 W) (h p h1)
theorem PX_skip {o : Oper} {dd : Nat} (i : Nat) (hi : ops[i]? = some o) (hk : okB ops listed i = true) (hw : ∀ a, Ag n a E → Region.wanted o (yielded ops a.tmps) = false) (hd : o.dst = some dd) (hn : dd < n) (hm : ∀ l w, S (l.setIfInBounds i true) w → S l w) (hS : S (listed.setIfInBounds i true) W)
    (h : PX P n ops Q S fuel (listed.setIfInBounds i true) (upd E dd undef) W) : PX P n ops Q S (fuel + 1) listed E W := fun hc a ha => by
  simp only [okB, Bool.and_eq_true] at hk
  have hr : i ∈ Region.ready .any ops listed := by simpa using hk.2
  exact wpL_first hi (Region.noSelect_spec hk.1.1) (fun _ _ _ h => h) hm fuel listed a W (Region.free_spec hi hk.1.2) hc hr (.inr ⟨hw a ha, rfl⟩) hS (by rw [hd]; exact h (hc.set hr) _ (ha.put hn _))
theorem PX_no {o : Oper} {dd j t : Nat} {want : Bool} (i : Nat) (hi : ops[i]? = some o) (hk : okB ops listed i = true) (hg : o.guard = some (j, want)) (hj : (ops[j]?).bind (·.dst) = some t) (ht : t < n) (hE : E t = .bool (!want)) (hd : o.dst = some dd) (hn : dd < n)
    (hm : ∀ l w, S (l.setIfInBounds i true) w → S l w) (hS : S (listed.setIfInBounds i true) W) (h : PX P n ops Q S fuel (listed.setIfInBounds i true) (upd E dd undef) W) : PX P n ops Q S (fuel + 1) listed E W :=
  PX_skip i hi hk (fun a ha => by have hy := ha.yield hj ht hE; simp [Region.wanted, hg, hy]) hd hn hm hS h
theorem PX_nou {o : Oper} {dd j t : Nat} {want : Bool} (i : Nat) (hi : ops[i]? = some o) (hk : okB ops listed i = true) (hg : o.guard = some (j, want)) (hj : (ops[j]?).bind (·.dst) = some t) (ht : t < n) (hE : E t = undef) (hd : o.dst = some dd) (hn : dd < n)
    (hm : ∀ l w, S (l.setIfInBounds i true) w → S l w) (hS : S (listed.setIfInBounds i true) W) (h : PX P n ops Q S fuel (listed.setIfInBounds i true) (upd E dd undef) W) : PX P n ops Q S (fuel + 1) listed E W :=
  PX_skip i hi hk (fun a ha => by have hy := ha.yield_none hj ht hE; simp [Region.wanted, hg, hy]) hd hn hm hS h
theorem PX_e {o : Oper} {dd : Nat} (i : Nat) (hi : ops[i]? = some o) (hr : Region.ready .any ops listed = [i]) (hw : Wanted n ops E o) (hd : o.dst = some dd) (hn : dd < n)
    (h : Eff P E o W fun v W' => S (listed.setIfInBounds i true) W' ∧ PX P n ops Q S fuel (listed.setIfInBounds i true) (upd E dd v) W') : PX P n ops Q S (fuel + 1) listed E W := fun hc a ha => by
  have hmem : i ∈ Region.ready .any ops listed := by rw [hr]; simp
  refine ⟨fun h0 => (by rw [h0] at hr; cases hr), fun j hj => ?_⟩
  rw [hr] at hj
  obtain rfl := List.mem_singleton.1 hj
  unfold wpOp
  simp only [hi]
  rw [if_pos (hw.of ha)]
  refine .inl ?_
  unfold Oper.wp
  rw [ha.eval]
  rcases h with ⟨v, W', h1, h2⟩ | ⟨W', h1, h2⟩ | ⟨f, args, h1, h2⟩
  · rw [h1, Oper.upon_value]; exact ⟨h2.1, by rw [hd]; exact h2.2 (hc.set hmem) _ (ha.put hn v)⟩
  · rw [h1, Oper.upon_skip]; exact ⟨h2.1, by rw [hd]; exact h2.2 (hc.set hmem) _ (ha.put hn _)⟩
  · rw [h1, Oper.upon_enter]
    refine Calls.mono h2 ?_
    rintro e w' ⟨v, rfl, hl⟩
    exact ⟨hl.1, by simp only [hd]; exact hl.2 (hc.set hmem) _ (ha.put hn v)⟩
theorem PX_e0 {o : Oper} (i : Nat) (hi : ops[i]? = some o) (hr : Region.ready .any ops listed = [i]) (hw : Wanted n ops E o) (hd : o.dst = none)
    (h : Eff P E o W fun _ W' => S (listed.setIfInBounds i true) W' ∧ PX P n ops Q S fuel (listed.setIfInBounds i true) E W') : PX P n ops Q S (fuel + 1) listed E W := fun hc a ha => by
  have hmem : i ∈ Region.ready .any ops listed := by rw [hr]; simp
  refine ⟨fun h0 => (by rw [h0] at hr; cases hr), fun j hj => ?_⟩
  rw [hr] at hj
  obtain rfl := List.mem_singleton.1 hj
  unfold wpOp
  simp only [hi]
  rw [if_pos (hw.of ha)]
  refine .inl ?_
  unfold Oper.wp
  rw [ha.eval]
  rcases h with ⟨v, W', h1, h2⟩ | ⟨W', h1, h2⟩ | ⟨f, args, h1, h2⟩
  · rw [h1, Oper.upon_value, hd]; exact ⟨h2.1, h2.2 (hc.set hmem) _ (ha.put_none _)⟩
  · rw [h1, Oper.upon_skip, hd]; exact ⟨h2.1, h2.2 (hc.set hmem) _ (ha.put_none _)⟩
  · rw [h1, Oper.upon_enter]
    refine Calls.mono h2 ?_
    rintro e w' ⟨v, rfl, hl⟩
    simp only [hd]
    exact ⟨hl.1, hl.2 (hc.set hmem) _ (ha.put_none _)⟩
theorem PX_done (hr : Region.ready .any ops listed = []) (h : Q .normal E W) : PX P n ops Q S fuel listed E W := fun _ a ha => by
  cases fuel with
  | zero => exact ⟨hr, E, ha, h⟩
  | succ f => exact ⟨fun _ => ⟨E, ha, h⟩, fun i hi => by rw [hr] at hi; cases hi⟩
theorem ffl {p : Prop} {b : Bool} (hb : b = true) (h : b = false) : p := by rw [hb] at h; cases h
theorem PX_join {J : (Nat → Value) → World → Prop} (l' : Array Bool) (f' : Nat) (k : ∀ E W, J E W → PX P n ops Q S f' l' E W) (h : (∀ E W, J E W → PX P n ops Q S f' l' E W) → PX P n ops Q S fuel listed E W) : PX P n ops Q S fuel listed E W := h k
theorem PX_at {l' : Array Bool} (hl : listed = l') (h : PX P n ops Q S fuel l' E W) : PX P n ops Q S fuel listed E W := by rw [hl]; exact h
theorem LW_join {J : (Nat → Value) → World → Prop} {rest : List Oper} (m : Nat) (k : ∀ E W, J E W → LW P n ops Q (rest.drop m) E W) (h : (∀ E W, J E W → LW P n ops Q (rest.drop m) E W) → LW P n ops Q rest E W) : LW P n ops Q rest E W := h k
theorem upd_comm {E : Nat → Value} {a b : Nat} {x y : Value} (h : a ≠ b) : upd (upd E a x) b y = upd (upd E b y) a x := by
  funext t
  simp only [upd]
  by_cases h1 : t = a
  · subst h1; simp [h]
  · by_cases h2 : t = b
    · subst h2; simp [h1]
    · simp [h1, h2]
theorem PX_two {o o' : Oper} {d d' : Nat} (i j : Nat) (hi : ops[i]? = some o) (hj : ops[j]? = some o') (hr : Region.ready .any ops listed = [i, j]) (hw : Wanted n ops E o) (hw' : Wanted n ops E o') (hd : o.dst = some d) (hd' : o'.dst = some d') (hn : d < n) (hn' : d' < n)
    (h : Eff P E o W fun v W' => S (listed.setIfInBounds i true) W' ∧ PX P n ops Q S fuel (listed.setIfInBounds i true) (upd E d v) W')
    (h' : Eff P E o' W fun v W' => S (listed.setIfInBounds j true) W' ∧ PX P n ops Q S fuel (listed.setIfInBounds j true) (upd E d' v) W') : PX P n ops Q S (fuel + 1) listed E W := fun hc a ha => by
  have key : ∀ (k : Nat) (q : Oper) (e : Nat), ops[k]? = some q → k ∈ Region.ready .any ops listed → Wanted n ops E q → q.dst = some e → e < n → (Eff P E q W fun v W' => S (listed.setIfInBounds k true) W' ∧ PX P n ops Q S fuel (listed.setIfInBounds k true) (upd E e v) W') →
      wpOp P ops (lift n Q) k (fun a' w' => S (listed.setIfInBounds k true) w' ∧ wpL P ops (lift n Q) S fuel (listed.setIfInBounds k true) a' w') a W := by
    intro k q e hk hmem hw hd hn h
    unfold wpOp
    simp only [hk]
    rw [if_pos (hw.of ha)]
    refine .inl ?_
    unfold Oper.wp
    rw [ha.eval]
    rcases h with ⟨v, W', h1, h2⟩ | ⟨W', h1, h2⟩ | ⟨f, args, h1, h2⟩
    · rw [h1, Oper.upon_value]; exact ⟨h2.1, by rw [hd]; exact h2.2 (hc.set hmem) _ (ha.put hn v)⟩
    · rw [h1, Oper.upon_skip]; exact ⟨h2.1, by rw [hd]; exact h2.2 (hc.set hmem) _ (ha.put hn _)⟩
    · rw [h1, Oper.upon_enter]
      refine Calls.mono h2 ?_
      rintro e w' ⟨v, rfl, hl⟩
      exact ⟨hl.1, by simp only [hd]; exact hl.2 (hc.set hmem) _ (ha.put hn v)⟩
  refine ⟨fun h0 => (by rw [h0] at hr; cases hr), fun k hk => ?_⟩
  rw [hr] at hk
  rcases List.mem_cons.1 hk with rfl | hk
  · exact key _ o d hi (by rw [hr]; simp) hw hd hn h
  · obtain rfl := List.mem_singleton.1 hk
    exact key _ o' d' hj (by rw [hr]; simp) hw' hd' hn' h'
theorem PX_alloc2 {dd : Bool} {F : Nat → Prop} {w : World} {μ : Mem} {L : List (Nat × Obj)} {t t' ty ty' : TypeId} {p p' : String} {f f' : Array Edge} {z z' : Value} {d d' : Nat} (i j : Nat) (hi : ops[i]? = some ⟨some d, .alloc t, ty, p, f, none⟩) (hj : ops[j]? = some ⟨some d', .alloc t', ty', p', f', none⟩)
    (hr : Region.ready .any ops listed = [i, j]) (hri : Region.ready .any ops (listed.setIfInBounds i true) = [j]) (hrj : Region.ready .any ops (listed.setIfInBounds j true) = [i]) (hn : d < n) (hn' : d' < n) (hne : Nat.beq d d' = false) (hij : Nat.beq i j = false)
    (hST : ST dd F w W μ L) (hz : ∀ w, (zeroValue t).run P w = .ok z w) (hz' : ∀ w, (zeroValue t').run P w = .ok z' w) (h1 : ∀ W', Has μ L W' → S (listed.setIfInBounds i true) W') (h2 : ∀ W', Has μ L W' → S (listed.setIfInBounds j true) W') (h3 : ∀ W', Has μ L W' → S ((listed.setIfInBounds i true).setIfInBounds j true) W')
    (h : ∀ W' b c, ST dd F w W' μ ((b, .cells z.cells t (0, 0)) :: (c, .cells z'.cells t' (0, 0)) :: L) → PX P n ops Q S fuel ((listed.setIfInBounds i true).setIfInBounds j true) (upd (upd E d (.pointer (some ⟨b, 0, none⟩))) d' (.pointer (some ⟨c, 0, none⟩))) W') :
    PX P n ops Q S (fuel + 1 + 1) listed E W := by
  have hcomm : (listed.setIfInBounds j true).setIfInBounds i true = (listed.setIfInBounds i true).setIfInBounds j true := Array.setIfInBounds_comm _ _ (fun e => by subst e; simp at hij)
  have hd : d ≠ d' := fun e => by subst e; simp at hne
  refine PX_two i j hi hj hr (.inl rfl) (.inl rfl) rfl rfl hn hn' (E_alloc hST hz (fun W1 b hST1 => ⟨h1 _ (hST1.has.sub (Sub.refl _) fun _ hp => .tail _ hp), ?_⟩)) (E_alloc hST hz' (fun W1 c hST1 => ⟨h2 _ (hST1.has.sub (Sub.refl _) fun _ hp => .tail _ hp), ?_⟩))
  · refine PX_e j hj hri (.inl rfl) rfl hn' (E_alloc hST1 hz' (fun W2 c hST2 => ⟨h3 _ (hST2.has.sub (Sub.refl _) fun _ hp => .tail _ (.tail _ hp)), ?_⟩))
    exact h W2 b c (hST2.perm (List.Perm.swap _ _ _))
  · refine PX_e i hi hrj (.inl rfl) rfl hn (E_alloc hST1 hz (fun W2 b hST2 => ⟨?_, ?_⟩))
    · rw [hcomm]; exact h3 _ (hST2.has.sub (Sub.refl _) fun _ hp => .tail _ (.tail _ hp))
    · rw [hcomm, ← upd_comm hd]; exact h W2 b c hST2
theorem til {l : Array Bool} {i j : Nat} {A : Prop} (hij : Nat.beq i j = false) (h : (l.setIfInBounds i true).getD j true = false → A) : l.getD j true = false → A := fun h0 => h (by
  rw [getD_set_ne true (fun e => by subst e; simp at hij)]; exact h0)
end
theorem IxR.at {α : Type} {e : TypeId} {enc : α → List Value} {k : Nat} {v : Value} {l : List α} {R : List (Nat × Obj)} (h : Row e enc k v l R) (hk : ∀ x, (enc x).length = k) {p : Value} {i : Nat} (hp : IxR R k p i) {x : α} (hl : l[i]? = some x) : At (memL R) p (enc x) := by
  obtain ⟨g', cur, cap, rfl, rfl, _, _, _, _, rfl, h5⟩ := ix_cells h hk hp hl
  exact ⟨g', i * k, cur, e, (0, 0), rfl, by simp [memL], h5⟩
theorem MapAt.form {κ β : Type} {kenc : κ → Value} {vf : β → Value} {μ : Mem} {v : Value} {l : List (κ × β)} (h : MapAt kenc vf μ v l) : ∃ r, v = .map r := by
  rcases h with ⟨h, _⟩ | ⟨m, es, clock, h, _⟩
  · exact ⟨_, h⟩
  · exact ⟨_, h⟩
section
variable {P : Program} {W : World} {E : Nat → Value} {d : Option Nat} {ty : TypeId} {pos : String} {af : Array Edge} {g : Option (Nat × Bool)}
theorem R_cbEqNil {tx tv : TypeId} {x y : Operand} {α β : Type} {fv : Value} {μ : Mem} {av : α → List Value} {rv : β → Value} {pm : α → Option β} {s u : Array TypeId} {bb : Bool} (ht : P.underlying tx = some (.func s u bb)) (h : CbOk P fv μ av rv pm) (hx : evE E x = fv) (hy : evE E y = .nilFunc) :
    Runs P E ⟨d, .binOp .eql tx x y tv, ty, pos, af, g⟩ W (.bool false) W := by
  obtain ⟨f, a, b, rfl⟩ := h.form
  exact R_funcEqNil ht hx hy
theorem R_makeFuncF {fn : Fn} {first : Array Operand} {fs : List Value} {v : Value} (hc : first.map (evE E) ++ (#[] : Array Value) = fs.toArray) (hv : .func fn fs.toArray #[] = v) : Runs P E ⟨d, .makeFunc fn first #[], ty, pos, af, g⟩ W v W := by
  have : first.map (evE E) = fs.toArray := by simpa using hc
  exact R_makeFunc (by rw [this]; simpa using hv)
end
noncomputable def keysS {β : Type} (l : List (ByteArray × β)) : Option (List ByteArray) :=
  open Classical in if (l.map (·.1)).Nodup ∧ (∀ p ∈ l, p.1.size ≤ maxLen) ∧ l.length * 16 ≤ 140737488355328 then some (sortedS (l.map (·.1))) else none
theorem Vals.zip {κ γ : Type} {Q : Value → γ → List (Nat × Obj) → Prop} : ∀ {lv : List (κ × Value)} {l : List (κ × γ)} {R : List (Nat × Obj)}, Vals Q lv l R →
    ∃ ll : List (κ × (Value × γ)), ll.map (fun p => (p.1, p.2.1)) = lv ∧ ll.map (fun p => (p.1, p.2.2)) = l ∧ ∀ p ∈ ll, ∃ R1, Q p.2.1 p.2.2 R1 ∧ ∀ x ∈ R1, x ∈ R
  | [], [], R, _ => ⟨[], rfl, rfl, fun _ h => by cases h⟩
  | [], _ :: _, _, h => h.elim
  | _ :: _, [], _, h => h.elim
  | p :: lv, q :: l, R, h => by
    obtain ⟨h1, R1, R2, rfl, h3, h4⟩ := h
    obtain ⟨ll, e1, e2, e3⟩ := Vals.zip h4
    refine ⟨(q.1, (p.2, q.2)) :: ll, by simp [e1, ← h1], by simp [e2], fun x hx => ?_⟩
    rcases List.mem_cons.1 hx with rfl | hx
    · exact ⟨R1, h3, fun y hy => List.mem_append_left _ hy⟩
    · obtain ⟨R3, h5, h6⟩ := e3 x hx
      exact ⟨R3, h5, fun y hy => List.mem_append_right _ (h6 y hy)⟩
theorem DeepAt.zip {κ κ2 β : Type} {kenc : κ → Value} {kenc2 : κ2 → Value} {vf : β → Value} {μ : Mem} {v : Value} {l : List (κ × List (κ2 × β))} (h : DeepAt kenc (MapRow kenc2 vf) μ v l) :
    ∃ ll : List (κ × (Value × List (κ2 × β))), ll.map (fun p => (p.1, p.2.2)) = l ∧ MapAt kenc (fun x => x.1) μ v ll ∧ ∀ p ∈ ll, MapAt kenc2 vf μ p.2.1 p.2.2 := by
  obtain ⟨lv, R, ⟨Rm, Rv, rfl, ⟨m, es, clock, rfl, rfl, hM⟩, hV⟩, hR⟩ := h
  obtain ⟨ll, e1, e2, e3⟩ := hV.zip
  refine ⟨ll, e2, .inr ⟨m, es, clock, rfl, hR _ _ (by simp), ⟨?_, hM.born, hM.lt⟩⟩, fun p hp => ?_⟩
  · rw [hM.pairs, ← e1]; simp
  · obtain ⟨R1, h1, h2⟩ := e3 p hp
    exact h1.at (fun b o hb => hR b o (List.mem_append_right _ (h2 _ hb)))
def pairsB {κ κ2 β α : Type} (by_ : Nat) (mk : κ → κ2 → α) (l : List (κ × List (κ2 × β))) : Option (List α) :=
  if (l.flatMap (fun p => p.2.map (fun q => mk p.1 q.1))).length * by_ ≤ 140737488355328 ∧ (l.flatMap (fun p => p.2.map (fun q => mk p.1 q.1))).length ≤ maxLen then some (l.flatMap (fun p => p.2.map (fun q => mk p.1 q.1))) else none
theorem pairsB_some {κ κ2 β α : Type} {by_ : Nat} {mk : κ → κ2 → α} {l : List (κ × List (κ2 × β))} {fs : List α} (h : pairsB by_ mk l = some fs) : fs.length * by_ ≤ 140737488355328 ∧ fs.length ≤ maxLen ∧ l.flatMap (fun p => p.2.map (fun q => mk p.1 q.1)) = fs := by
  unfold pairsB at h
  split at h
  · rename_i hh; cases h; exact ⟨hh.1, hh.2, rfl⟩
  · cases h
theorem appB_of {α : Type} {by_ : Nat} {l m fs : List α} (h1 : fs.length * by_ ≤ 140737488355328) (h2 : fs.length ≤ maxLen) (h : (l ++ m).length ≤ fs.length) : appB by_ l m = some (l ++ m) := by
  rw [List.length_append] at h
  unfold appB
  rw [if_pos ⟨Nat.le_trans (Nat.mul_le_mul_right _ h) h1, Nat.le_trans h h2⟩]
end Go.Proofs.Ytfjdjbdnnoijgaa
