/- a part of a proof of ModelLeast -/
import Derived.WalkKit
import Derived.WalkLawsBesides
set_option linter.all false
namespace Go.Proofs.Ytfjdjbdnnoijgaa
open Go.RowKit
def upd (E : Nat → Value) (d : Nat) (v : Value) : Nat → Value := fun t => if t = d then v else E t
def evE (E : Nat → Value) : Operand → Value
  | .tmp t => E t
  | .const v => v
  | .global g => .pointer (some ⟨g, 0, none⟩)
  | .func f => .func (.func f) #[] #[]
def Ag (n : Nat) (a : Act) (E : Nat → Value) : Prop := a.tmps.size = n ∧ a.defers = [] ∧ ∀ t, a.tmps.getD t undef = E t
section
variable {n : Nat} {a : Act} {E : Nat → Value}
theorem Ag.eval (h : Ag n a E) : a.eval = evE E := by
  funext x
  cases x with
  | tmp t => exact h.2.2 t
  | const v => rfl
  | global g => rfl
  | func f => rfl
theorem Ag.put (h : Ag n a E) {d : Nat} (hd : d < n) (v : Value) : Ag n (a.put (some d) v) (upd E d v) := by
  refine ⟨by simp [Act.put, h.1], h.2.1, fun t => ?_⟩
  have h3 := h.2.2 t
  simp only [Act.put, upd]
  by_cases ht : t = d
  · subst ht
    simp [h.1, hd]
  · have : ¬ d = t := fun e => ht e.symm
    rw [if_neg ht, ← h3]
    simp [Array.getD_eq_getD_getElem?, this]
theorem Ag.put_none (h : Ag n a E) (v : Value) : Ag n (a.put none v) E := h
theorem Ag.yield (h : Ag n a E) {ops : Array Oper} {j t : Nat} {b : Bool} (hj : (ops[j]?).bind (·.dst) = some t) (ht : t < n) (hv : E t = .bool b) : yielded ops a.tmps j = some b := by
  have h3 := h.2.2 t
  have hs : a.tmps[t]? = some (E t) := by
    rw [← h3]
    simp [Array.getD_eq_getD_getElem?, h.1, ht]
  simp [yielded, hj, hs, hv]
end
abbrev Post := Exit → (Nat → Value) → World → Prop
def lift (n : Nat) (Q : Post) : Exit → Act → World → Prop
  | .panic _, _, _ => False
  | .outgrown, _, _ => False
  | e, a, w => ∃ E, Ag n a E ∧ Q e E w
def CW (P : Program) (n : Nat) (c : Code) (Q : Post) (E : Nat → Value) (W : World) : Prop := ∀ a, Ag n a E → c.wp P (lift n Q) a W
def LW (P : Program) (n : Nat) (ops : Array Oper) (Q : Post) (l : List Oper) (E : Nat → Value) (W : World) : Prop := ∀ a, Ag n a E → wpList P ops (lift n Q) l a W
def seqQ (K : (Nat → Value) → World → Prop) (Q : Post) : Post
  | .normal, E, W => K E W
  | e, E, W => Q e E W
def blockQ (id : Nat) (Q : Post) : Post
  | .exit j, E, W => if j = id then Q .normal E W else Q (.exit j) E W
  | e, E, W => Q e E W
section
variable {P : Program} {n : Nat} {Q : Post} {E : Nat → Value} {W : World} {c x y : Code} {ops : Array Oper} {rest : List Oper} {o : Oper}
theorem CW_mono {Q' : Post} (h : CW P n c Q E W) (hq : ∀ e E W, Q e E W → Q' e E W) : CW P n c Q' E W := fun a ha =>
  wp_mono (h a ha) (fun e _ _ h => by
    cases e with
    | panic c => exact h
    | outgrown => exact h
    | _ => obtain ⟨E', ha', hq'⟩ := h; exact ⟨E', ha', hq _ _ _ hq'⟩)
theorem CW_seq (h : CW P n x (seqQ (fun E W => CW P n y Q E W) Q) E W) : CW P n (.seq x y) Q E W := fun a ha =>
  wp_seq (wp_mono (h a ha) (fun e a' w' h => by
    cases e with
    | normal => obtain ⟨E', ha', hq⟩ := h; exact hq a' ha'
    | _ => exact h))
theorem CW_skip (h : Q .normal E W) : CW P n .skip Q E W := fun _ ha => wp_skip ⟨E, ha, h⟩
theorem CW_ret (h : Q .ret E W) : CW P n .ret Q E W := fun _ ha => wp_ret ⟨E, ha, h⟩
theorem CW_exit {id : Nat} (h : Q (.exit id) E W) : CW P n (.exit id) Q E W := fun _ ha => wp_exit ⟨E, ha, h⟩
theorem CW_block {id : Nat} (h : CW P n c (blockQ id Q) E W) : CW P n (.block id c) Q E W := fun a ha =>
  wp_block (wp_mono (h a ha) (fun e a' w' h => by
    cases e with
    | exit j =>
      obtain ⟨E', ha', hq⟩ := h
      simp only [Exit.inBlock]
      simp only [blockQ] at hq
      split at hq
      · rename_i hj; rw [if_pos hj]; exact ⟨E', ha', hq⟩
      · rename_i hj; rw [if_neg hj]; exact ⟨E', ha', hq⟩
    | _ => exact h))
theorem CW_if {co : Operand} {b : Bool} (hc : evE E co = .bool b) (ht : b = true → CW P n x Q E W) (hf : b = false → CW P n y Q E W) : CW P n (.cond co x y) Q E W := fun a ha => by
  refine wp_cond_split (t := b) (by rw [ha.eval]; exact hc) (fun h => ht h a ha) (fun h => hf h a ha)
theorem CW_if_true {co : Operand} (hc : evE E co = .bool true) (h : CW P n x Q E W) : CW P n (.cond co x y) Q E W := CW_if hc (fun _ => h) (fun h => by cases h)
theorem CW_if_false {co : Operand} (hc : evE E co = .bool false) (h : CW P n y Q E W) : CW P n (.cond co x y) Q E W := CW_if hc (fun h => by cases h) (fun _ => h)
theorem CW_region {id : Nat} {l : List Oper} (h : LW P n l.toArray Q l E W) : CW P n (.region id l.toArray false) Q E W := fun a ha => wp_region_lit (h a ha)
theorem LW_nil (h : Q .normal E W) : LW P n ops Q [] E W := fun _ ha => wpList_nil ⟨E, ha, h⟩
theorem wp_loop_ghost {P : Program} {c : Code} {Q : Exit → Act → World → Prop} {a : Act} {w : World} (I : Nat → Act → World → Prop) (m : Nat) (h₀ : I m a w)
    (round : ∀ m a w, I m a w → c.wp P (Exit.then (fun a' w' => ∃ m', m' < m ∧ I m' a' w') Q) a w) : (Code.loop c).wp P Q a w := by
  intro b k cs
  have key : ∀ m a w, I m a w → ∃ e a' w', Q e a' w' ∧ Arrives P (lone (b.at a (.code c :: .inLoop c :: k)) cs w) b k cs e a' w' := by
    intro m
    induction m using Nat.strongRecOn with
    | _ m ih =>
      intro a w hI
      obtain ⟨e, a₁, w₁, hq, harr⟩ := round m a w hI b (.inLoop c :: k) cs
      cases e with
      | normal =>
        obtain ⟨m', hlt, hI₁⟩ := hq
        obtain ⟨e₂, a₂, w₂, hq₂, harr₂⟩ := ih m' hlt a₁ w₁ hI₁
        exact ⟨e₂, a₂, w₂, hq₂, .of_steps (Steps.trans harr (.one step_inLoop)) harr₂⟩
      | exit id => exact ⟨_, a₁, w₁, hq, .pass (x := .inLoop c) rfl (fun _ _ => .inl (by simp)) harr⟩
      | goto l => exact ⟨_, a₁, w₁, hq, .pass (x := .inLoop c) rfl (fun _ _ => .inl (by simp)) harr⟩
      | ret => exact ⟨_, a₁, w₁, hq, .pass (x := .inLoop c) rfl (fun _ _ => .inl (by simp)) harr⟩
      | panic ch => exact ⟨_, a₁, w₁, hq, .pass (x := .inLoop c) rfl (fun _ _ => .inl (by simp)) harr⟩
      | outgrown => exact ⟨_, a₁, w₁, hq, .pass (x := .inLoop c) rfl (fun _ _ => .inl (by simp)) harr⟩
  obtain ⟨e, a', w', hq, harr⟩ := key m a w h₀
  exact ⟨e, a', w', hq, .of_steps (.one step_loop) harr⟩
theorem CW_loop (I : Nat → (Nat → Value) → World → Prop) (m : Nat) (h₀ : I m E W)
    (round : ∀ m E W, I m E W → CW P n c (seqQ (fun E' W' => ∃ m', m' < m ∧ I m' E' W') Q) E W) : CW P n (.loop c) Q E W := fun a ha =>
  wp_loop_ghost (fun m a w => ∃ E, Ag n a E ∧ I m E w) m ⟨E, ha, h₀⟩ (fun m a w ⟨E, ha, hI⟩ =>
    wp_mono (round m E w hI a ha) (fun e a' w' h => by
      cases e with
      | normal => obtain ⟨E', ha', m', hlt, hI'⟩ := h; exact ⟨m', hlt, E', ha', hI'⟩
      | _ => exact h))
def Wanted (n : Nat) (ops : Array Oper) (E : Nat → Value) (o : Oper) : Prop :=
  o.guard = none ∨ ∃ j want t, o.guard = some (j, want) ∧ (ops[j]?).bind (·.dst) = some t ∧ t < n ∧ E t = .bool want
theorem Wanted.of {a : Act} (h : Wanted n ops E o) (ha : Ag n a E) : Region.wanted o (yielded ops a.tmps) = true := by
  rcases h with h | ⟨j, want, t, hg, hj, ht, hE⟩
  · simp [Region.wanted, h]
  · simp [Region.wanted, hg, ha.yield hj ht hE]
theorem LW_val {d : Nat} {v : Value} {W' : World} (hw : Wanted n ops E o) (hd : o.dst = some d) (hn : d < n) (hr : (execOp (evE E) o).run P W = .ok (.value v) W')
    (h : LW P n ops Q rest (upd E d v) W') : LW P n ops Q (o :: rest) E W := fun a ha => by
  unfold wpList
  rw [if_pos (hw.of ha)]
  refine .inl ?_
  unfold Oper.wp
  rw [ha.eval, hr, Oper.upon_value, hd]
  exact h _ (ha.put hn v)
theorem LW_skipv {W' : World} (hw : Wanted n ops E o) (hd : o.dst = none) (hr : (execOp (evE E) o).run P W = .ok .skip W')
    (h : LW P n ops Q rest E W') : LW P n ops Q (o :: rest) E W := fun a ha => by
  unfold wpList
  rw [if_pos (hw.of ha)]
  refine .inl ?_
  unfold Oper.wp
  rw [ha.eval, hr, Oper.upon_skip, hd]
  exact h _ (ha.put_none _)
theorem LW_enter {f : FuncId} {args : Array Value} {d : Nat} (hw : Wanted n ops E o) (hd : o.dst = some d) (hn : d < n) (hr : (execOp (evE E) o).run P W = .ok (.enter f args) W)
    (h : Calls P f args W fun e w' => ∃ v, e = .returned v ∧ LW P n ops Q rest (upd E d v) w') : LW P n ops Q (o :: rest) E W := fun a ha => by
  unfold wpList
  rw [if_pos (hw.of ha)]
  refine .inl ?_
  unfold Oper.wp
  rw [ha.eval, hr, Oper.upon_enter]
  refine h.mono ?_
  rintro e w' ⟨v, rfl, hl⟩
  simp only [hd]
  exact hl _ (ha.put hn v)
theorem LW_no {d j t : Nat} {want : Bool} (hd : o.dst = some d) (hn : d < n) (hg : o.guard = some (j, want)) (hj : (ops[j]?).bind (·.dst) = some t) (ht : t < n) (hE : E t = .bool (!want))
    (h : LW P n ops Q rest (upd E d undef) W) : LW P n ops Q (o :: rest) E W := fun a ha => by
  unfold wpList
  have hy := ha.yield hj ht hE
  rw [if_neg (by simp [Region.wanted, hg, hy])]
  rw [hd]
  exact h _ (ha.put hn _)
end
end Go.Proofs.Ytfjdjbdnnoijgaa
