/- a part of a proof of StuckWaits -/
import Derived.WalkKit
import Derived.WalkLawsBesides
import Derived.Maps.AppendAt
import Derived.OrdersHeld
import Derived.Laws.IdiomStrings
import Derived.Maps.RangeRun
import Derived.Lib.BytesEntry
import Derived.Lib.Bytealg
import Derived.Laws.Externs
import Derived.ChangeKeysEq
import Derived.Deep.AppendSrc
import Derived.Laws.MakeOwn
set_option linter.all false
namespace Go.Proofs.YtmlncblocfcmiaaGreat
open Go.RowKit
def jZ (E : Nat → Value) (d : Nat) (v : Value) : Nat → Value := fun t => if t = d then v else E t
def aR (E : Nat → Value) : Operand → Value
  | .tmp t => E t
  | .const v => v
  | .global g => .pointer (some ⟨g, 0, none⟩)
  | .func f => .func (.func f) #[] #[]
def Ag (n : Nat) (a : Act) (E : Nat → Value) : Prop := a.tmps.size = n ∧ a.defers = [] ∧ ∀ t, a.tmps.getD t undef = E t
section
variable {n : Nat} {a : Act} {E : Nat → Value}
theorem Ag.eval (h : Ag n a E) : a.eval = aR E := by
  funext x
  cases x with
  | tmp t => exact h.2.2 t
  | const v => rfl
  | global g => rfl
  | func f => rfl
theorem Ag.put (h : Ag n a E) {d : Nat} (hd : d < n) (v : Value) : Ag n (a.put (some d) v) (jZ E d v) := by
  refine ⟨by simp [Act.put, h.1], h.2.1, fun t => ?_⟩
  have h3 := h.2.2 t
  simp only [Act.put, jZ]
  by_cases ht : t = d
  · subst ht
    simp [h.1, hd]
  · have : ¬ d = t := fun e => ht e.symm
    rw [if_neg ht, ← h3]
    simp [Array.getD_eq_getD_getElem?, this]
theorem Ag.put_none (h : Ag n a E) (v : Value) : Ag n (a.put none v) E := h
theorem Ag.yield (h : Ag n a E) {ops : Array Oper} {j t : Nat} {b : Bool} (hj : (ops[j]?).bind (·.dst) = some t) (ht : t < n) (hv : E t = .bool b) : yielded ops a.tmps j = some b := by
  have h3 := h.2.2 t
  have hs : a.tmps[t]? = some (E t) := by
    rw [← h3]
    simp [Array.getD_eq_getD_getElem?, h.1, ht]
  simp [yielded, hj, hs, hv]
end
abbrev kA := Exit → (Nat → Value) → World → Prop
def lift (n : Nat) (Q : kA) : Exit → Act → World → Prop
  | .panic _, _, _ => False
  | .outgrown, _, _ => False
  | e, a, w => ∃ E, Ag n a E ∧ Q e E w
def CW (P : Program) (n : Nat) (c : Code) (Q : kA) (E : Nat → Value) (W : World) : Prop := ∀ a, Ag n a E → c.wp P (lift n Q) a W
def LW (P : Program) (n : Nat) (ops : Array Oper) (Q : kA) (l : List Oper) (E : Nat → Value) (W : World) : Prop := ∀ a, Ag n a E → wpList P ops (lift n Q) l a W
def pp (K : (Nat → Value) → World → Prop) (Q : kA) : kA
  | .normal, E, W => K E W
  | e, E, W => Q e E W
def oX (id : Nat) (Q : kA) : kA
  | .exit j, E, W => if j = id then Q .normal E W else Q (.exit j) E W
  | e, E, W => Q e E W
section
variable {P : Program} {n : Nat} {Q : kA} {E : Nat → Value} {W : World} {c x y : Code} {ops : Array Oper} {rest : List Oper} {o : Oper}
theorem wR {Q' : kA} (h : CW P n c Q E W) (hq : ∀ e E W, Q e E W → Q' e E W) : CW P n c Q' E W := fun a ha =>
  wp_mono (h a ha) (fun e _ _ h => by
    cases e with
    | panic c => exact h
    | outgrown => exact h
    | _ => obtain ⟨E', ha', hq'⟩ := h; exact ⟨E', ha', hq _ _ _ hq'⟩)
theorem aC (h : CW P n x (pp (fun E W => CW P n y Q E W) Q) E W) : CW P n (.seq x y) Q E W := fun a ha =>
  wp_seq (wp_mono (h a ha) (fun e a' w' h => by
    cases e with
    | normal => obtain ⟨E', ha', hq⟩ := h; exact hq a' ha'
    | _ => exact h))
theorem aT (h : Q .normal E W) : CW P n .skip Q E W := fun _ ha => wp_skip ⟨E, ha, h⟩
theorem aS (h : Q .ret E W) : CW P n .ret Q E W := fun _ ha => wp_ret ⟨E, ha, h⟩
theorem gI {id : Nat} (h : Q (.exit id) E W) : CW P n (.exit id) Q E W := fun _ ha => wp_exit ⟨E, ha, h⟩
theorem aU {id : Nat} (h : CW P n c (oX id Q) E W) : CW P n (.block id c) Q E W := fun a ha =>
  wp_block (wp_mono (h a ha) (fun e a' w' h => by
    cases e with
    | exit j =>
      obtain ⟨E', ha', hq⟩ := h
      simp only [Exit.inBlock]
      simp only [oX] at hq
      split at hq
      · rename_i hj; rw [if_pos hj]; exact ⟨E', ha', hq⟩
      · rename_i hj; rw [if_neg hj]; exact ⟨E', ha', hq⟩
    | _ => exact h))
theorem Bd {co : Operand} {b : Bool} (hc : aR E co = .bool b) (ht : b = true → CW P n x Q E W) (hf : b = false → CW P n y Q E W) : CW P n (.cond co x y) Q E W := fun a ha => by
  refine wp_cond_split (t := b) (by rw [ha.eval]; exact hc) (fun h => ht h a ha) (fun h => hf h a ha)
theorem nF {co : Operand} (hc : aR E co = .bool true) (h : CW P n x Q E W) : CW P n (.cond co x y) Q E W := Bd hc (fun _ => h) (fun h => by cases h)
theorem kp {co : Operand} (hc : aR E co = .bool false) (h : CW P n y Q E W) : CW P n (.cond co x y) Q E W := Bd hc (fun h => by cases h) (fun _ => h)
theorem aA {id : Nat} {l : List Oper} (h : LW P n l.toArray Q l E W) : CW P n (.region id l.toArray false) Q E W := fun a ha => wp_region_lit (h a ha)
theorem aD (h : Q .normal E W) : LW P n ops Q [] E W := fun _ ha => wpList_nil ⟨E, ha, h⟩
theorem xL {P : Program} {c : Code} {Q : Exit → Act → World → Prop} {a : Act} {w : World} (I : Nat → Act → World → Prop) (m : Nat) (h₀ : I m a w)
    (round : ∀ m a w, I m a w → c.wp P (Exit.then (fun a' w' => ∃ m', m' < m ∧ I m' a' w') Q) a w) : (Code.loop c).wp P Q a w := by
  intro b k cs
  have key : ∀ m a w, I m a w → ∃ e a' w', Q e a' w' ∧ Arrives P (lone (b.at a (.code c :: .inLoop c :: k)) cs w) b k cs e a' w' := by
    intro m
    induction m using Nat.strongRecOn with
    | _ m ih =>
      intro a w hI
      obtain ⟨e, a₁, w₁, hq, harr⟩ := round m a w hI b (.inLoop c :: k) cs
      cases e with
      | normal =>
        obtain ⟨m', hlt, hI₁⟩ := hq
        obtain ⟨e₂, a₂, w₂, hq₂, harr₂⟩ := ih m' hlt a₁ w₁ hI₁
        exact ⟨e₂, a₂, w₂, hq₂, .of_steps (Steps.trans harr (.one step_inLoop)) harr₂⟩
      | exit id => exact ⟨_, a₁, w₁, hq, .pass (x := .inLoop c) rfl (fun _ _ => .inl (by simp)) harr⟩
      | goto l => exact ⟨_, a₁, w₁, hq, .pass (x := .inLoop c) rfl (fun _ _ => .inl (by simp)) harr⟩
      | ret => exact ⟨_, a₁, w₁, hq, .pass (x := .inLoop c) rfl (fun _ _ => .inl (by simp)) harr⟩
      | panic ch => exact ⟨_, a₁, w₁, hq, .pass (x := .inLoop c) rfl (fun _ _ => .inl (by simp)) harr⟩
      | outgrown => exact ⟨_, a₁, w₁, hq, .pass (x := .inLoop c) rfl (fun _ _ => .inl (by simp)) harr⟩
  obtain ⟨e, a', w', hq, harr⟩ := key m a w h₀
  exact ⟨e, a', w', hq, .of_steps (.one step_loop) harr⟩
theorem gH (I : Nat → (Nat → Value) → World → Prop) (m : Nat) (h₀ : I m E W)
    (round : ∀ m E W, I m E W → CW P n c (pp (fun E' W' => ∃ m', m' < m ∧ I m' E' W') Q) E W) : CW P n (.loop c) Q E W := fun a ha =>
  xL (fun m a w => ∃ E, Ag n a E ∧ I m E w) m ⟨E, ha, h₀⟩ (fun m a w ⟨E, ha, hI⟩ =>
    wp_mono (round m E w hI a ha) (fun e a' w' h => by
      cases e with
      | normal => obtain ⟨E', ha', m', hlt, hI'⟩ := h; exact ⟨m', hlt, E', ha', hI'⟩
      | _ => exact h))
def kJ (n : Nat) (ops : Array Oper) (E : Nat → Value) (o : Oper) : Prop :=
  o.guard = none ∨ ∃ j want t, o.guard = some (j, want) ∧ (ops[j]?).bind (·.dst) = some t ∧ t < n ∧ E t = .bool want
theorem kJ.of {a : Act} (h : kJ n ops E o) (ha : Ag n a E) : Region.wanted o (yielded ops a.tmps) = true := by
  rcases h with h | ⟨j, want, t, hg, hj, ht, hE⟩
  · simp [Region.wanted, h]
  · simp [Region.wanted, hg, ha.yield hj ht hE]
theorem BR {d : Nat} {v : Value} {W' : World} (hw : kJ n ops E o) (hd : o.dst = some d) (hn : d < n) (hr : (execOp (aR E) o).run P W = .ok (.value v) W')
    (h : LW P n ops Q rest (jZ E d v) W') : LW P n ops Q (o :: rest) E W := fun a ha => by
  unfold wpList
  rw [if_pos (hw.of ha)]
  refine .inl ?_
  unfold Oper.wp
  rw [ha.eval, hr, Oper.upon_value, hd]
  exact h _ (ha.put hn v)
theorem Cq {W' : World} (hw : kJ n ops E o) (hd : o.dst = none) (hr : (execOp (aR E) o).run P W = .ok .skip W')
    (h : LW P n ops Q rest E W') : LW P n ops Q (o :: rest) E W := fun a ha => by
  unfold wpList
  rw [if_pos (hw.of ha)]
  refine .inl ?_
  unfold Oper.wp
  rw [ha.eval, hr, Oper.upon_skip, hd]
  exact h _ (ha.put_none _)
theorem Cx {f : FuncId} {args : Array Value} {d : Nat} (hw : kJ n ops E o) (hd : o.dst = some d) (hn : d < n) (hr : (execOp (aR E) o).run P W = .ok (.enter f args) W)
    (h : Calls P f args W fun e w' => ∃ v, e = .returned v ∧ LW P n ops Q rest (jZ E d v) w') : LW P n ops Q (o :: rest) E W := fun a ha => by
  unfold wpList
  rw [if_pos (hw.of ha)]
  refine .inl ?_
  unfold Oper.wp
  rw [ha.eval, hr, Oper.upon_enter]
  refine h.mono ?_
  rintro e w' ⟨v, rfl, hl⟩
  simp only [hd]
  exact hl _ (ha.put hn v)
theorem E0 {d j t : Nat} {want : Bool} (hd : o.dst = some d) (hn : d < n) (hg : o.guard = some (j, want)) (hj : (ops[j]?).bind (·.dst) = some t) (ht : t < n) (hE : E t = .bool (!want))
    (h : LW P n ops Q rest (jZ E d undef) W) : LW P n ops Q (o :: rest) E W := fun a ha => by
  unfold wpList
  have hy := ha.yield hj ht hE
  rw [if_neg (by simp [Region.wanted, hg, hy])]
  rw [hd]
  exact h _ (ha.put hn _)
end
end Go.Proofs.YtmlncblocfcmiaaGreat
namespace Go.Proofs.YtmlncblocfcmiaaGreat
open Go.RowKit
variable {dd : Bool}
abbrev aY := Nat → Option Obj
def hp (W : World) : aY := fun b => W.heap[b]?
def lF (dd : Bool) (a b : Nat) : Prop := dd = true → a ≤ b
theorem lF.of {dd : Bool} {a b : Nat} (h : a ≤ b) : lF dd a b := fun _ => h
theorem lF.trans {dd : Bool} {a b c : Nat} (h : lF dd a b) (k : lF dd b c) : lF dd a c := fun e => Nat.le_trans (h e) (k e)
structure Ex (dd : Bool) (w W : World) : Prop where
  os : W.os = w.os
  tape : W.tape = w.tape
  output : W.output = w.output
  drawn : lF dd w.drawn W.drawn
  size : w.heap.size ≤ W.heap.size
  old : ∀ b, b < w.heap.size → W.heap[b]? = w.heap[b]?
theorem Ex.refl (w : World) : Ex dd w w := ⟨rfl, rfl, rfl, lF.of (Nat.le_refl _), Nat.le_refl _, fun _ _ => rfl⟩
theorem Ex.trans {a b c : World} (h : Ex dd a b) (k : Ex dd b c) : Ex dd a c :=
  ⟨k.os.trans h.os, k.tape.trans h.tape, k.output.trans h.output, lF.trans h.drawn k.drawn, Nat.le_trans h.size k.size, fun i hi => (k.old i (Nat.lt_of_lt_of_le hi h.size)).trans (h.old i hi)⟩
theorem Ex.drew (w : World) : Ex dd w w.drew := ⟨rfl, rfl, rfl, lF.of (Nat.le_succ _), Nat.le_refl _, fun _ _ => rfl⟩
theorem Ex.alloc (w : World) (o : Obj) : Ex dd w (w.alloc o) := ⟨rfl, rfl, rfl, lF.of (Nat.le_refl _), by show w.heap.size ≤ (w.heap.push o).size; simp, fun k hk => Below.heap_alloc w o k hk⟩
theorem Ex.weak {w W : World} (h : Ex true w W) : Ex dd w W := ⟨h.os, h.tape, h.output, lF.of (h.drawn rfl), h.size, h.old⟩
def aW (μ μ' : aY) : Prop := ∀ b o, μ b = some o → μ' b = some o
theorem aW.refl (μ : aY) : aW μ μ := fun _ _ h => h
theorem aW.trans {a b c : aY} (h : aW a b) (k : aW b c) : aW a c := fun x o hx => k x o (h x o hx)
structure ST (dd : Bool) (F : Nat → Prop) (w W : World) (μ : aY) (L : List (Nat × Obj)) : Prop where
  os : W.os = w.os
  tape : W.tape = w.tape
  output : W.output = w.output
  drawn : lF dd w.drawn W.drawn
  size : w.heap.size ≤ W.heap.size
  old : ∀ b, b < w.heap.size → ¬ F b → W.heap[b]? = w.heap[b]?
  mem : ∀ b o, μ b = some o → W.heap[b]? = some o
  box : ∀ b o, (b, o) ∈ L → W.heap[b]? = some o ∧ μ b = none ∧ (w.heap.size ≤ b ∨ F b)
  nd : (L.map (·.1)).Nodup
def dW : Nat → Prop := fun _ => False
theorem ST.start (w : World) : ST dd dW w w (hp w) [] :=
  ⟨rfl, rfl, rfl, lF.of (Nat.le_refl _), Nat.le_refl _, fun _ _ _ => rfl, fun _ _ h => h, fun _ _ h => (by cases h), by simp⟩
section
variable {F : Nat → Prop} {w W W' : World} {μ μ' : aY} {L L' : List (Nat × Obj)}
theorem ST.ex (h : ST dd dW w W μ L) : Ex dd w W := ⟨h.os, h.tape, h.output, h.drawn, h.size, fun b hb => h.old b hb (fun x => x)⟩
theorem Dc (W : World) (o : Obj) : (W.alloc o).heap[W.heap.size]? = some o := heap_alloc_new W o
theorem gF {W : World} {b : Nat} {o : Obj} (h : W.heap[b]? = some o) : b < W.heap.size := (Array.getElem?_eq_some_iff.1 h).1
theorem ST.drew (h : ST dd F w W μ L) : ST dd F w W.drew μ L :=
  ⟨h.os, h.tape, h.output, lF.trans h.drawn (lF.of (Nat.le_succ _)), h.size, h.old, h.mem, h.box, h.nd⟩
theorem ST.box_lt (h : ST dd F w W μ L) {b : Nat} {o : Obj} (hb : (b, o) ∈ L) : b < W.heap.size := gF (h.box b o hb).1
theorem ST.alloc (h : ST dd F w W μ L) (o : Obj) : ST dd F w (W.alloc o) μ ((W.heap.size, o) :: L) := by
  refine ⟨h.os, h.tape, h.output, h.drawn, Nat.le_trans h.size (Ex.alloc (dd := true) W o).size, fun b hb hF => ?_, fun b o' hb => ?_, fun b o' hb => ?_, ?_⟩
  · rw [(Ex.alloc (dd := true) W o).old b (Nat.lt_of_lt_of_le hb h.size)]; exact h.old b hb hF
  · have := h.mem b o' hb
    rw [(Ex.alloc (dd := true) W o).old b (gF this)]; exact this
  · rcases List.mem_cons.1 hb with e | hb
    · cases e
      refine ⟨Dc W o, ?_, .inl h.size⟩
      cases hm : μ W.heap.size with
      | none => rfl
      | some x => have := gF (h.mem _ _ hm); omega
    · obtain ⟨h1, h2, h3⟩ := h.box b o' hb
      exact ⟨by rw [(Ex.alloc (dd := true) W o).old b (gF h1)]; exact h1, h2, h3⟩
  · simp only [List.map_cons, List.nodup_cons]
    refine ⟨fun hm => ?_, h.nd⟩
    obtain ⟨⟨b, o'⟩, hb, e⟩ := List.mem_map.1 hm
    have := h.box_lt hb
    simp at e
    omega
theorem ST.put {A B : List (Nat × Obj)} {b : Nat} {o o' : Obj} (h : ST dd F w W μ (A ++ (b, o) :: B)) (hW : W'.os = W.os ∧ W'.tape = W.tape ∧ W'.output = W.output ∧ W.drawn ≤ W'.drawn ∧ W'.heap.size = W.heap.size)
    (hs : ∀ k, k ≠ b → W'.heap[k]? = W.heap[k]?) (hb : W'.heap[b]? = some o') : ST dd F w W' μ (A ++ (b, o') :: B) := by
  obtain ⟨h1, h2, h3, h4, h5⟩ := hW
  have hb0 := h.box b o (by simp)
  have hnd := h.nd
  simp only [List.map_append, List.map_cons] at hnd
  have hnA : ∀ x o, (x, o) ∈ A → x ≠ b := fun x o hx e => by
    subst e
    have := (List.nodup_append.1 hnd).2.2 x (List.mem_map.2 ⟨_, hx, rfl⟩) x (by simp)
    exact this rfl
  have hnB : ∀ x o, (x, o) ∈ B → x ≠ b := fun x o hx e => by
    subst e
    have := (List.nodup_cons.1 (List.nodup_append.1 hnd).2.1).1
    exact this (List.mem_map.2 ⟨_, hx, rfl⟩)
  refine ⟨h1.trans h.os, h2.trans h.tape, h3.trans h.output, lF.trans h.drawn (lF.of h4), by rw [h5]; exact h.size, fun k hk hF => ?_, fun k x hk => ?_, fun k x hk => ?_, by simpa using hnd⟩
  · rw [hs k (fun e => by subst e; rcases hb0.2.2 with h | h; omega; exact hF h)]
    exact h.old k hk hF
  · rw [hs k (fun e => by subst e; rw [hb0.2.1] at hk; cases hk)]
    exact h.mem k x hk
  · rcases List.mem_append.1 hk with hk | hk
    · rw [hs k (hnA k x hk)]; exact h.box k x (by simp [hk])
    · rcases List.mem_cons.1 hk with e | hk
      · cases e; exact ⟨hb, hb0.2⟩
      · rw [hs k (hnB k x hk)]; exact h.box k x (by simp [hk])
def Lo (F : Nat → Prop) (w : World) (μ μ' : aY) : Prop := ∀ b, b < w.heap.size → ¬ F b → μ' b = μ b
theorem Lo.refl {F : Nat → Prop} {w : World} {μ : aY} : Lo F w μ μ := fun _ _ _ => rfl
theorem Lo.trans {F : Nat → Prop} {w : World} {a b c : aY} (h : Lo F w a b) (k : Lo F w b c) : Lo F w a c := fun x hx hF => (k x hx hF).trans (h x hx hF)
def grow (μ : aY) (W W' : World) : aY := fun b => if b < W.heap.size then μ b else W'.heap[b]?
theorem ST.mu_lt (h : ST dd F w W μ L) {b : Nat} {o : Obj} (hb : μ b = some o) : b < W.heap.size := gF (h.mem b o hb)
theorem ST.call (h : ST dd F w W μ L) (hx : Ex dd W W') : ST dd F w W' (grow μ W W') L := by
  refine ⟨hx.os.trans h.os, hx.tape.trans h.tape, hx.output.trans h.output, lF.trans h.drawn hx.drawn, Nat.le_trans h.size hx.size, fun b hb hF => ?_, fun b o hb => ?_, fun b o hb => ?_, h.nd⟩
  · rw [hx.old b (Nat.lt_of_lt_of_le hb h.size)]; exact h.old b hb hF
  · unfold grow at hb
    split at hb
    · rename_i hlt; rw [hx.old b hlt]; exact h.mem b o hb
    · exact hb
  · obtain ⟨h1, h2, h3⟩ := h.box b o hb
    exact ⟨by rw [hx.old b (gF h1)]; exact h1, by unfold grow; rw [if_pos (gF h1)]; exact h2, h3⟩
theorem ST.grow_sub (h : ST dd F w W μ L) (W' : World) : aW μ (grow μ W W') := fun b o hb => by
  unfold grow; rw [if_pos (h.mu_lt hb)]; exact hb
theorem ST.weak (h : ST dd F w W μ' L) (hs : aW μ μ') : ST dd F w W μ L :=
  ⟨h.os, h.tape, h.output, h.drawn, h.size, h.old, fun b o hb => h.mem b o (hs b o hb), fun b o hb => by
    obtain ⟨h1, h2, h3⟩ := h.box b o hb
    refine ⟨h1, ?_, h3⟩
    cases hm : μ b with
    | none => rfl
    | some x => (have := hs b x hm; rw [h2] at this; cases this), h.nd⟩
theorem ST.call0 (h : ST dd F w W μ L) (hx : Ex dd W W') : ST dd F w W' μ L := (h.call hx).weak (h.grow_sub W')
theorem ST.sub_hp (h : ST dd F w W μ L) : aW μ (hp W) := h.mem
def zJ (μ : aY) (b : Nat) (o : Obj) : aY := fun k => if k = b then some o else μ k
theorem ST.publish {A B : List (Nat × Obj)} {b : Nat} {o : Obj} (h : ST dd F w W μ (A ++ (b, o) :: B)) : ST dd F w W (zJ μ b o) (A ++ B) := by
  have hb0 := h.box b o (by simp)
  have hnd := h.nd
  simp only [List.map_append, List.map_cons] at hnd
  have hne : ∀ x y, (x, y) ∈ A ++ B → x ≠ b := fun x y hx e => by
    subst e
    rcases List.mem_append.1 hx with hx | hx
    · exact (List.nodup_append.1 hnd).2.2 x (List.mem_map.2 ⟨_, hx, rfl⟩) x (by simp) rfl
    · exact (List.nodup_cons.1 (List.nodup_append.1 hnd).2.1).1 (List.mem_map.2 ⟨_, hx, rfl⟩)
  refine ⟨h.os, h.tape, h.output, h.drawn, h.size, h.old, fun k x hk => ?_, fun k x hk => ?_, ?_⟩
  · unfold zJ at hk
    split at hk
    · rename_i e; cases hk; rw [e]; exact hb0.1
    · exact h.mem k x hk
  · have hk' : (k, x) ∈ A ++ (b, o) :: B := by
      rcases List.mem_append.1 hk with h | h <;> simp [h]
    obtain ⟨h1, h2, h3⟩ := h.box k x hk'
    exact ⟨h1, by unfold zJ; rw [if_neg (hne k x hk)]; exact h2, h3⟩
  · have : (A ++ B).Sublist (A ++ (b, o) :: B) := List.Sublist.append (List.Sublist.refl A) (List.sublist_cons_self _ _)
    exact List.Nodup.sublist (this.map _) h.nd
theorem ST.pub_sub {A B : List (Nat × Obj)} {b : Nat} {o : Obj} (h : ST dd F w W μ (A ++ (b, o) :: B)) : aW μ (zJ μ b o) := fun k x hk => by
  unfold zJ
  split
  · rename_i e; subst e; rw [(h.box k o (by simp)).2.1] at hk; cases hk
  · exact hk
theorem ST.lo_pub {A B : List (Nat × Obj)} {b : Nat} {o : Obj} (h : ST dd F w W μ (A ++ (b, o) :: B)) : Lo F w μ (zJ μ b o) := fun k hk hF => by
  refine if_neg (fun e => ?_)
  subst e
  rcases (h.box k o (by simp)).2.2 with hg | hg
  · omega
  · exact hF hg
theorem ST.drop {A B : List (Nat × Obj)} {p : Nat × Obj} (h : ST dd F w W μ (A ++ p :: B)) : ST dd F w W μ (A ++ B) :=
  (h.publish (b := p.1) (o := p.2)).weak h.pub_sub
end
abbrev iX (α : Type) := aY → List Value → α → Prop
def Sl {α : Type} (R : iX α) (k : Nat) (μ : aY) (v : Value) (l : List α) : Prop :=
  ∃ A c, v = .slice A l.length c ∧ l.length ≤ c ∧ c ≤ maxLen ∧ (0 < l.length → ∃ b off cs T fr, A = some ⟨b, off, none⟩ ∧ μ b = some (.cells cs T fr) ∧
    ∀ i x, l[i]? = some x → ∃ ys, ys.length = k ∧ R μ ys x ∧ ∀ j y, ys[j]? = some y → cs[off + i * k + j]? = some y)
def At (μ : aY) (v : Value) (ys : List Value) : Prop :=
  ∃ b off cs T fr, v = .pointer (some ⟨b, off, none⟩) ∧ μ b = some (.cells cs T fr) ∧ ∀ j y, ys[j]? = some y → cs[off + j]? = some y
def Fr (B : Nat) (v : Value) : Prop := ∀ b, v.ownBlock = some b → B ≤ b
def xT {α : Type} (R : iX α) : Prop := ∀ μ μ' ys x, aW μ μ' → R μ ys x → R μ' ys x
def Pl {α : Type} (enc : α → List Value) : iX α := fun _ ys x => ys = enc x
theorem Pl.mono {α : Type} (enc : α → List Value) : xT (Pl enc) := fun _ _ _ _ _ h => h
theorem Sl.mono {α : Type} {R : iX α} (hR : xT R) {k : Nat} {μ μ' : aY} {v : Value} {l : List α} (h : Sl R k μ v l) (hs : aW μ μ') : Sl R k μ' v l := by
  obtain ⟨A, c, h1, h2, h3, h4⟩ := h
  refine ⟨A, c, h1, h2, h3, fun hl => ?_⟩
  obtain ⟨b, off, cs, T, fr, h5, h6, h7⟩ := h4 hl
  exact ⟨b, off, cs, T, fr, h5, hs _ _ h6, fun i x hx => let ⟨ys, h8, h9, h10⟩ := h7 i x hx; ⟨ys, h8, hR _ _ _ _ hs h9, h10⟩⟩
theorem At.mono {μ μ' : aY} {v : Value} {ys : List Value} (h : At μ v ys) (hs : aW μ μ') : At μ' v ys := by
  obtain ⟨b, off, cs, T, fr, h1, h2, h3⟩ := h
  exact ⟨b, off, cs, T, fr, h1, hs _ _ h2, h3⟩
theorem Sl.len {α : Type} {R : iX α} {k : Nat} {μ : aY} {v : Value} {l : List α} (h : Sl R k μ v l) : l.length ≤ 9223372036854775807 := by
  obtain ⟨A, c, h1, h2, h3, h4⟩ := h
  unfold maxLen at h3
  omega
theorem Sl.nil {α : Type} (R : iX α) (k : Nat) (μ : aY) : Sl R k μ (.slice none 0 0) [] := ⟨none, 0, rfl, Nat.le_refl _, by decide, fun h => absurd h (by simp)⟩
theorem Fr.mono {B B' : Nat} {v : Value} (h : Fr B v) (hB : B' ≤ B) : Fr B' v := fun b hb => Nat.le_trans hB (h b hb)
theorem Fr.nil (B : Nat) : Fr B (.slice none 0 0) := fun b hb => by simp [Value.ownBlock] at hb
end Go.Proofs.YtmlncblocfcmiaaGreat
namespace Go.Proofs.YtmlncblocfcmiaaGreat
open Go.RowKit
variable {dd : Bool}
section
variable {P : Program} {n : Nat} {Q : kA} {E : Nat → Value} {W : World} {ops : Array Oper} {rest : List Oper}
  {d : Option Nat} {ty : TypeId} {pos : String} {af : Array Edge} {g : Option (Nat × Bool)}
  {F : Nat → Prop} {w : World} {μ : aY} {L : List (Nat × Obj)}
def dT (P : Program) (E : Nat → Value) (o : Oper) (W : World) (v : Value) (W' : World) : Prop := (execOp (aR E) o).run P W = .ok (.value v) W'
theorem wX {o : Oper} {dd : Nat} {v : Value} (hw : kJ n ops E o) (hd : o.dst = some dd) (hn : dd < n) (hr : dT P E o W v W) (h : LW P n ops Q rest (jZ E dd v) W) : LW P n ops Q (o :: rest) E W := BR hw hd hn hr h
theorem aB {x : Operand} {v : Value} (hx : aR E x = v) : dT P E ⟨d, .move x, ty, pos, af, g⟩ W v W := by rw [← hx]; rfl
theorem aF {x : Operand} {v : Value} (hx : aR E x = v) : dT P E ⟨d, .assign x, ty, pos, af, g⟩ W v W := by rw [← hx]; rfl
theorem cD {c x y : Operand} {v : Value} (hc : aR E c = .bool true) (hv : aR E x = v) : dT P E ⟨d, .pick c x y, ty, pos, af, g⟩ W v W := by
  show (do pure (.value (if ← asBool (aR E c) then aR E x else aR E y)) : Sem Next).run P W = _
  rw [hc, ← hv]; simp [asBool]
theorem cI {c x y : Operand} {v : Value} (hc : aR E c = .bool false) (hv : aR E y = v) : dT P E ⟨d, .pick c x y, ty, pos, af, g⟩ W v W := by
  show (do pure (.value (if ← asBool (aR E c) then aR E x else aR E y)) : Sem Next).run P W = _
  rw [hc, ← hv]; simp [asBool]
theorem bQ {x : Operand} {i : Nat} {vs : Array Value} {v : Value} (hx : aR E x = .tuple vs) (hv : vs[i]? = some v) : dT P E ⟨d, .extract x i, ty, pos, af, g⟩ W v W := by
  show (do pure (.value (← Instr.extract (aR E x) i)) : Sem Next).run P W = _
  rw [hx]; simp [Instr.extract, hv]
theorem iS {u : TypeId} {x : Operand} {b : Bool} (hx : aR E x = .bool b) : dT P E ⟨d, .unOp .not u x, ty, pos, af, g⟩ W (.bool !b) W := by
  show (do pure (.value (← Op.unary .not (aR E x))) : Sem Next).run P W = _
  rw [hx]; simp [Op.unary]
theorem AD {fn : Fn} {first caps : Array Operand} {v : Value} (hv : .func fn (first.map (aR E)) (caps.map (aR E)) = v) : dT P E ⟨d, .makeFunc fn first caps, ty, pos, af, g⟩ W v W := by
  show (do pure (.value (← Instr.makeFunc fn (first.map (aR E)) (caps.map (aR E)))) : Sem Next).run P W = _
  rw [← hv]; simp [Instr.makeFunc]
def AL (k : IntKind) (op : BinOp) (a b : Int) : Option Value :=
  match op with
  | .eql => some (.bool (a == b))
  | .neq => some (.bool (a != b))
  | .lss => some (.bool (decide (a < b)))
  | .leq => some (.bool (decide (a ≤ b)))
  | .gtr => some (.bool (decide (a > b)))
  | .geq => some (.bool (decide (a ≥ b)))
  | .add => some (.int k (k.wrap (a + b)))
  | .sub => some (.int k (k.wrap (a - b)))
  | .mul => some (.int k (k.wrap (a * b)))
  | _ => none
theorem aP {op : BinOp} {tx tv : TypeId} {x y : Operand} {k : IntKind} {a b : Int} {v : Value} (hx : aR E x = .int k a) (hy : aR E y = .int k b) (hv : AL k op a b = some v) :
    dT P E ⟨d, .binOp op tx x y tv, ty, pos, af, g⟩ W v W := by
  show (do let r ← (do eqGuard op tx x y (aR E x) (aR E y); binOp op tx (aR E x) (aR E y)); pure (.value r) : Sem Next).run P W = _
  rw [hx, hy]
  cases op <;> simp [AL] at hv <;> subst hv <;> simp [eqGuard, binOp, Op.intCmp, Op.intArith]
def De (op : BinOp) (a b : ByteArray) : Option Value :=
  match op with
  | .eql => some (.bool (a.toList == b.toList))
  | .neq => some (.bool !(a.toList == b.toList))
  | .lss => some (.bool (Op.bytesLess a.toList b.toList))
  | .leq => some (.bool (Op.bytesLess a.toList b.toList || a.toList == b.toList))
  | .gtr => some (.bool !(Op.bytesLess a.toList b.toList || a.toList == b.toList))
  | .geq => some (.bool !(Op.bytesLess a.toList b.toList))
  | _ => none
theorem Fe {op : BinOp} {tx tv : TypeId} {x y : Operand} {a b : ByteArray} {v : Value} (hx : aR E x = .string a) (hy : aR E y = .string b) (hv : De op a b = some v) :
    dT P E ⟨d, .binOp op tx x y tv, ty, pos, af, g⟩ W v W := by
  show (do let r ← (do eqGuard op tx x y (aR E x) (aR E y); binOp op tx (aR E x) (aR E y)); pure (.value r) : Sem Next).run P W = _
  rw [hx, hy]
  cases op <;> simp [De] at hv <;> subst hv <;> simp [eqGuard, binOp, Op.stringOp]
theorem qc {tx tv : TypeId} {x y : Operand} {a b : Array Value} {r : Bool} (hx : aR E x = .agg a) (hy : aR E y = .agg b) (hg : ∀ W, (eqGuard .eql tx x y (.agg a) (.agg b)).run P W = .ok () W)
    (hv : ∀ W, (binOp .eql tx (.agg a) (.agg b)).run P W = .ok (.bool r) W) : dT P E ⟨d, .binOp .eql tx x y tv, ty, pos, af, g⟩ W (.bool r) W := by
  show (do let r ← (do eqGuard .eql tx x y (aR E x) (aR E y); binOp .eql tx (aR E x) (aR E y)); pure (.value r) : Sem Next).run P W = _
  rw [hx, hy]; simp [hg W, hv W]
theorem E4 {tx tv : TypeId} {x y : Operand} {a b : Array Value} {r : Bool} (hx : aR E x = .agg a) (hy : aR E y = .agg b) (hg : ∀ W, (eqGuard .neq tx x y (.agg a) (.agg b)).run P W = .ok () W)
    (hv : ∀ W, (binOp .neq tx (.agg a) (.agg b)).run P W = .ok (.bool r) W) : dT P E ⟨d, .binOp .neq tx x y tv, ty, pos, af, g⟩ W (.bool r) W := by
  show (do let r ← (do eqGuard .neq tx x y (aR E x) (aR E y); binOp .neq tx (aR E x) (aR E y)); pure (.value r) : Sem Next).run P W = _
  rw [hx, hy]; simp [hg W, hv W]
theorem qH {t e : TypeId} (dd : Nat) (ht : P.underlying t = some (.pointer e)) (a : Option Addr) (W : World) : (Op.equalIn (dd + 1) t (.pointer a) (.pointer none)).run P W = .ok a.isNone W := by
  cases a <;> simp [Op.equalIn, run_underlying ht]
theorem nH {tx tv e : TypeId} {x y : Operand} {a : Option Addr} (ht : P.underlying tx = some (.pointer e)) (hx : aR E x = .pointer a) (hy : aR E y = .pointer none) :
    dT P E ⟨d, .binOp .eql tx x y tv, ty, pos, af, g⟩ W (.bool a.isNone) W := by
  show (do let r ← (do eqGuard .eql tx x y (aR E x) (aR E y); binOp .eql tx (aR E x) (aR E y)); pure (.value r) : Sem Next).run P W = _
  rw [hx, hy]
  have h0 := qH 9999 ht a W
  simp [eqGuard, binOp, Op.equal, show Op.maxDepth = 9999 + 1 from rfl, h0]
theorem sM {tx tv e : TypeId} {x y : Operand} {a : Option Addr} (ht : P.underlying tx = some (.pointer e)) (hx : aR E x = .pointer a) (hy : aR E y = .pointer none) :
    dT P E ⟨d, .binOp .neq tx x y tv, ty, pos, af, g⟩ W (.bool !a.isNone) W := by
  show (do let r ← (do eqGuard .neq tx x y (aR E x) (aR E y); binOp .neq tx (aR E x) (aR E y)); pure (.value r) : Sem Next).run P W = _
  rw [hx, hy]
  have h0 := qH 9999 ht a W
  simp [eqGuard, binOp, Op.equal, show Op.maxDepth = 9999 + 1 from rfl, h0]
theorem iO {x : Operand} {t : TypeId} {s : ByteArray} (ht : P.underlying t = some .string) (hx : aR E x = .string s) : dT P E ⟨d, .call ⟨.builtin .len, #[x], #[t]⟩, ty, pos, af, g⟩ W (.int .i64 s.size) W := by
  show (do let d ← resolve (aR E) ⟨.builtin .len, #[x], #[t]⟩ ty; invoke d.target d.args : Sem Next).run P W = _
  simp [resolve, invoke, builtin, Builtin.len_, run_underlying ht, hx, goInt]
theorem qg {x : Operand} {t e : TypeId} {A : Option Addr} {l c : Nat} (ht : P.underlying t = some (.slice e)) (hx : aR E x = .slice A l c) : dT P E ⟨d, .call ⟨.builtin .len, #[x], #[t]⟩, ty, pos, af, g⟩ W (.int .i64 l) W := by
  show (do let d ← resolve (aR E) ⟨.builtin .len, #[x], #[t]⟩ ty; invoke d.target d.args : Sem Next).run P W = _
  simp [resolve, invoke, builtin, Builtin.len_, run_underlying ht, hx, goInt]
theorem eH {α : Type} {R : iX α} {k : Nat} {m : aY} {x : Operand} {t e : TypeId} {v : Value} {l : List α} (ht : P.underlying t = some (.slice e)) (hx : aR E x = v) (hs : Sl R k m v l) : dT P E ⟨d, .call ⟨.builtin .len, #[x], #[t]⟩, ty, pos, af, g⟩ W (.int .i64 l.length) W := by
  obtain ⟨A, c, rfl, _⟩ := hs
  exact qg ht hx
theorem Av {t : TypeId} {x ix : Operand} {ik : IntKind} {s : ByteArray} {i : Int} {c : UInt8} (ht : P.underlying t = some .string) (hx : aR E x = .string s) (hi : aR E ix = .int ik i) (h0 : 0 ≤ i) (hl : s[i.toNat]? = some c) :
    dT P E ⟨d, .index t x ix, ty, pos, af, g⟩ W (.int .u8 c.toNat) W := by
  show (do pure (.value (← Instr.index t (aR E x) (aR E ix))) : Sem Next).run P W = _
  rw [hx, hi]
  simp [Instr.index, asIntOf, run_underlying ht, h0, hl]
def dH (P : Program) (t : TypeId) (f off : Nat) : Prop := ∀ b o w, (Instr.fieldAt t (.pointer (some ⟨b, o, none⟩)) f).run P w = .ok (.pointer (some ⟨b, o + off, none⟩)) w
theorem aM {t : TypeId} {x : Operand} {f off b o : Nat} (hf : dH P t f off) (hx : aR E x = .pointer (some ⟨b, o, none⟩)) : dT P E ⟨d, .fieldAddr t x f, ty, pos, af, g⟩ W (.pointer (some ⟨b, o + off, none⟩)) W := by
  show (do pure (.value (← Instr.fieldAt t (aR E x) f)) : Sem Next).run P W = _
  rw [hx]; simp [hf b o W]
theorem tX {t : TypeId} {x : Operand} {f off : Nat} {v : Value} {ys : List Value} (zs : List Value) (hf : dH P t f off) (hx : aR E x = v) (hv : At μ v ys) (hz : (ys.drop off).take zs.length = zs) :
    ∃ v', At μ v' zs ∧ ∀ W, dT P E ⟨d, .fieldAddr t x f, ty, pos, af, g⟩ W v' W := by
  obtain ⟨b, o, cs, T, fr, rfl, h1, h2⟩ := hv
  refine ⟨_, ⟨b, o + off, cs, T, fr, rfl, h1, fun j y hy => ?_⟩, fun W => aM hf hx⟩
  have hj : j < zs.length := (List.getElem?_eq_some_iff.1 hy).1
  have := h2 (off + j) y (by
    rw [← hz, List.getElem?_take_of_lt hj, List.getElem?_drop] at hy
    exact hy)
  rw [Nat.add_assoc]
  exact this
theorem bP {x : Operand} {a : Addr} (hx : aR E x = .pointer (some a)) : dT P E ⟨d, .nilCheck x, ty, pos, af, g⟩ W (.pointer (some a)) W := by
  unfold dT execOp
  simp [hx]
theorem zQ {α : Type} {R : iX α} {k : Nat} {t e : TypeId} {x ix : Operand} {ik : IntKind} {v : Value} {i : Int} {l : List α} {x0 : α}
    (ht : P.underlying t = some (.slice e)) (he : ∀ w, (sizeOf e).run P w = .ok k w) (hx : aR E x = v) (hi : aR E ix = .int ik i) (hs : Sl R k μ v l) (h0 : 0 ≤ i) (hl : l[i.toNat]? = some x0) :
    ∃ p ys, ys.length = k ∧ R μ ys x0 ∧ At μ p ys ∧ ∀ W, dT P E ⟨d, .indexAddr t x ix, ty, pos, af, g⟩ W p W := by
  obtain ⟨A, c, rfl, h2, h3, h4⟩ := hs
  have hlt : i.toNat < l.length := (List.getElem?_eq_some_iff.1 hl).1
  obtain ⟨b, off, cs, T, fr, rfl, h6, h7⟩ := h4 (by omega)
  obtain ⟨ys, h8, h9, h10⟩ := h7 i.toNat x0 hl
  refine ⟨.pointer (some ⟨b, off + i.toNat * k, none⟩), ys, h8, h9, ⟨b, off + i.toNat * k, cs, T, fr, rfl, h6, fun j y hy => h10 j y hy⟩, fun W => ?_⟩
  show (do pure (.value (← Instr.indexAt t (aR E x) (aR E ix))) : Sem Next).run P W = _
  rw [hx, hi]
  have hb : 0 ≤ i ∧ i < (l.length : Int) := ⟨h0, by omega⟩
  simp [Instr.indexAt, asIntOf, run_underlying ht, he W, hb, Addr.add_lit]
theorem lm {α : Type} {enc : α → List Value} {k : Nat} {t e : TypeId} {x ix : Operand} {ik : IntKind} {v : Value} {i : Int} {l : List α} {x0 : α}
    (ht : P.underlying t = some (.slice e)) (he : ∀ w, (sizeOf e).run P w = .ok k w) (hx : aR E x = v) (hi : aR E ix = .int ik i) (hs : Sl (Pl enc) k μ v l) (h0 : 0 ≤ i) (hl : l[i.toNat]? = some x0) :
    ∃ p, At μ p (enc x0) ∧ ∀ W, dT P E ⟨d, .indexAddr t x ix, ty, pos, af, g⟩ W p W := by
  obtain ⟨p, ys, h1, h2, h3, h4⟩ := zQ (d := d) (ty := ty) (pos := pos) (af := af) (g := g) ht he hx hi hs h0 hl
  cases h2
  exact ⟨p, h3, h4⟩
theorem xS (P : Program) {W : World} {b off : Nat} {cs : Array Value} {T : TypeId} {fr : Nat × Nat} (hb : W.heap[b]? = some (.cells cs T fr)) (ys : List Value) (hy : ∀ j y, ys[j]? = some y → cs[off + j]? = some y) :
    (loadCells ⟨b, off, none⟩ ys.length).run P W = .ok ys.toArray W :=
  run_loadCells_list W ⟨b, off, none⟩ ys (fun j v hv => by rw [Addr.add_lit, cell_of_row W b (off + j) cs T fr hb]; exact hy j v hv)
theorem qZ {W : World} {t : TypeId} {b off : Nat} {cs : Array Value} {T : TypeId} {fr : Nat × Nat} (hA : ∀ w, (isAgg t).run P w = .ok true w) (ys : List Value) (hS : ∀ w, (sizeOf t).run P w = .ok ys.length w)
    (hb : W.heap[b]? = some (.cells cs T fr)) (hy : ∀ j y, ys[j]? = some y → cs[off + j]? = some y) : (Instr.loadAt t (.pointer (some ⟨b, off, none⟩))).run P W = .ok (.agg ys.toArray) W := by
  simp [Instr.loadAt, Instr.sureAddr, loadVar, hA W, hS W, xS P hb ys hy]
theorem rq {W : World} {t : TypeId} {b off : Nat} {cs : Array Value} {T : TypeId} {fr : Nat × Nat} (hA : ∀ w, (isAgg t).run P w = .ok false w) {y : Value}
    (hb : W.heap[b]? = some (.cells cs T fr)) (hy : cs[off]? = some y) : (Instr.loadAt t (.pointer (some ⟨b, off, none⟩))).run P W = .ok y W := by
  have hc : W.cell? ⟨b, off, none⟩ = some y := by rw [cell_of_row W b off cs T fr hb]; exact hy
  simp [Instr.loadAt, Instr.sureAddr, loadVar, hA W, load, Sem.run, hc]
theorem aI {t : TypeId} {x : Operand} {a v : Value} (hx : aR E x = a) (hr : (Instr.loadAt t a).run P W = .ok v W) : dT P E ⟨d, .load t x, ty, pos, af, g⟩ W v W := by
  show (do pure (.value (← Instr.loadAt t (aR E x))) : Sem Next).run P W = _
  rw [hx]; simp [hr]
def gD (μ : aY) (A : List (Nat × Obj)) (W : World) : Prop := (∀ b o, μ b = some o → W.heap[b]? = some o) ∧ ∀ b o, (b, o) ∈ A → W.heap[b]? = some o
theorem ST.has (h : ST dd F w W μ L) : gD μ L W := ⟨h.mem, fun b o hb => (h.box b o hb).1⟩
theorem gD.sub {μ' : aY} {A A' : List (Nat × Obj)} (h : gD μ A W) (hs : aW μ' μ) (hA : ∀ p, p ∈ A' → p ∈ A) : gD μ' A' W := ⟨fun b o hb => h.1 b o (hs b o hb), fun b o hb => h.2 b o (hA _ hb)⟩
theorem bN {A : List (Nat × Obj)} (hH : gD μ A W) {t : TypeId} {p : Value} {ys : List Value} (hp : At μ p ys) (hA : ∀ w, (isAgg t).run P w = .ok true w) (hS : ∀ w, (sizeOf t).run P w = .ok ys.length w) :
    (Instr.loadAt t p).run P W = .ok (.agg ys.toArray) W := by
  obtain ⟨b, off, cs, T, fr, rfl, h1, h2⟩ := hp
  exact qZ hA ys hS (hH.1 _ _ h1) h2
theorem lZ {A : List (Nat × Obj)} (hH : gD μ A W) {t : TypeId} {p : Value} {y : Value} (hp : At μ p [y]) (hA : ∀ w, (isAgg t).run P w = .ok false w) :
    (Instr.loadAt t p).run P W = .ok y W := by
  obtain ⟨b, off, cs, T, fr, rfl, h1, h2⟩ := hp
  exact rq hA (hH.1 _ _ h1) (h2 0 y rfl)
theorem aK {A : List (Nat × Obj)} (hH : gD μ A W) {t : TypeId} {b off : Nat} {cs : Array Value} {T : TypeId} {fr : Nat × Nat} (hL : (b, Obj.cells cs T fr) ∈ A) (ys : List Value) (hy : (cs.toList.drop off).take ys.length = ys)
    (hA : ∀ w, (isAgg t).run P w = .ok true w) (hS : ∀ w, (sizeOf t).run P w = .ok ys.length w) : (Instr.loadAt t (.pointer (some ⟨b, off, none⟩))).run P W = .ok (.agg ys.toArray) W :=
  qZ hA ys hS (hH.2 _ _ hL) (fun j y hj => by
    have hlt : j < ys.length := (List.getElem?_eq_some_iff.1 hj).1
    rw [← hy, List.getElem?_take_of_lt hlt, List.getElem?_drop] at hj
    simpa using hj)
theorem aN {A : List (Nat × Obj)} (hH : gD μ A W) {t : TypeId} {b off : Nat} {cs : Array Value} {T : TypeId} {fr : Nat × Nat} (hL : (b, Obj.cells cs T fr) ∈ A) {y : Value} (hy : cs[off]? = some y)
    (hA : ∀ w, (isAgg t).run P w = .ok false w) : (Instr.loadAt t (.pointer (some ⟨b, off, none⟩))).run P W = .ok y W :=
  rq hA (hH.2 _ _ hL) hy
theorem dX {t : TypeId} {ps : Array (Nat × Operand)} {qs : Array (Nat × Value)} {v : Value} (hq : ps.map (fun (i, x) => (i, aR E x)) = qs)
    (hr : ∀ W, (Instr.build t qs).run P W = .ok v W) : dT P E ⟨d, .build t ps, ty, pos, af, g⟩ W v W := by
  show (do pure (.value (← Instr.build t (ps.map fun (i, x) => (i, aR E x)))) : Sem Next).run P W = _
  rw [hq]; simp [hr W]
theorem cV {t : TypeId} {z cs : Array Value} {fs : Array Field} {qs : Array (Nat × Value)} {pl : Array (Nat × Nat)} (hz : ∀ w, (zeroValue t).run P w = .ok (.agg z) w) (ht : P.underlying t = some (.struct fs))
    (hp : ∀ w, (fs.mapM fun f => do pure (f.offset, ← sizeOf f.type) : Sem (Array (Nat × Nat))).run P w = .ok pl w)
    (hf : Instr.fill (pl[·]?) z qs.toList = some cs) (W : World) : (Instr.build t qs).run P W = .ok (.agg cs) W := by
  simp only [Instr.build, Sem.run_bind, hz W, Result.andThen_ok, run_underlying ht, Value.cells]
  rw [hp W]
  simp only [Result.andThen_ok, hf, Sem.run_pure]
end
theorem tC {α : Type} : ∀ (a : Ask α) (w : World), w.drawn ≤ (w.ask a).2.drawn
  | .done a, w => by simp [World.ask]
  | .ask what range k, w => by
    unfold World.ask
    dsimp only
    split
    · exact tC (k 0) w
    · refine Nat.le_trans (Nat.le_succ w.drawn) ?_
      exact tC _ { w with drawn := w.drawn + 1 }
theorem Bp (w : World) (c : Sys) : w.drawn ≤ (w.sys c).2.drawn := by
  have h := tC (Kernel.perform c w.os) w
  unfold World.sys
  generalize w.ask (Kernel.perform c w.os) = r at *
  obtain ⟨⟨r1, r2⟩, w2⟩ := r
  cases r1 <;> simp at h ⊢ <;> exact h
theorem vY {p : Program} {w w' : World} {a : Addr} {u : TypeId} {k : Addr} {v : Value} {b : Bool} {l : List Addr} (h : w.viewStore p a u k v b = .ok (w', l)) : w'.drawn = w.drawn := by
  unfold World.viewStore at h
  simp only [bind, Except.bind, pure, Except.pure] at h
  split at h
  · cases h
  · split at h
    · cases h
    · split at h
      · split at h
        · cases h
        · split at h
          · cases h
          · cases h; rfl
      · cases h
theorem wU {p : Program} {w w' : World} {a : Addr} {v : Value} {b : Bool} {l : List Addr} (h : w.farStore p a v b = .ok (w', l)) : w'.drawn = w.drawn := by
  unfold World.farStore at h
  split at h
  · split at h
    · rename_i h1; cases h; exact vY h1
    · cases h
  · cases h
theorem ib {α : Type} {p : Program} : ∀ (s : Sem α) (w w' : World) (a : α), s.run p w = .ok a w' → w.drawn ≤ w'.drawn
  | .pure a, w, w', b, h => by simp only [Sem.run] at h; cases h; exact Nat.le_refl _
  | .load m a k, w, w', b, h => by
    simp only [Sem.run] at h
    split at h
    · exact ib _ _ _ _ h
    · split at h
      · exact ib _ _ _ _ h
      · cases h
  | .store m a v k, w, w', b, h => by
    have key : ∀ (r : Result α) hh, r = .ok b w' → (r = (match w.cell? a with
        | some _ => if w.frozen? a then .halt hh w else k.run p (w.setCell a v)
        | none => match w.farStore p a v (m == .atomic) with
          | .ok (w, _) => k.run p w
          | .error h => .halt h w)) → w.drawn ≤ w'.drawn := by
      intro r hh hr h
      rw [hr] at h
      split at h
      · split at h
        · cases h
        · have := ib k _ _ _ h.symm
          simpa [World.setCell] using this
      · split at h
        · rename_i h1
          have h2 := ib k _ _ _ h.symm
          rw [wU h1] at h2
          exact h2
        · cases h
    cases v with
    | agg cs => simp only [Sem.run] at h; cases h
    | tuple cs => simp only [Sem.run] at h; cases h
    | _ => exact key _ _ h (by simp only [Sem.run]; rfl)
  | .new o k, w, w', b, h => by simp only [Sem.run] at h; have := ib (k _) _ _ _ h; exact this
  | .shape r k, w, w', b, h => by simp only [Sem.run] at h; exact ib _ _ _ _ h
  | .freeze a n k, w, w', b, h => by
    simp only [Sem.run] at h
    have := ib k _ _ _ h
    unfold World.freeze at this
    split at this <;> exact this
  | .frozen a k, w, w', b, h => by simp only [Sem.run] at h; exact ib _ _ _ _ h
  | .getObj r k, w, w', b, h => by
    simp only [Sem.run] at h
    split at h <;> try (cases h; done)
    exact ib _ _ _ _ h
  | .setObj r o k, w, w', b, h => by
    simp only [Sem.run] at h
    split at h <;> try (cases h; done)
    have := ib k _ _ _ h
    exact this
  | .choose q k, w, w', b, h => by
    simp only [Sem.run] at h
    split at h
    · exact ib _ _ _ _ h
    · exact Nat.le_trans (Nat.le_succ _) (ib _ _ _ _ h)
  | .sys c k, w, w', b, h => by
    simp only [Sem.run] at h
    exact Nat.le_trans (Bp w c) (ib _ _ _ _ h)
  | .program k, w, w', b, h => by simp only [Sem.run] at h; exact ib _ _ _ _ h
  | .mark m k, w, w', b, h => by simp only [Sem.run] at h; exact ib k _ _ _ h
  | .halt x, w, w', b, h => by simp only [Sem.run] at h; cases h
end Go.Proofs.YtmlncblocfcmiaaGreat
namespace Go.Proofs.YtmlncblocfcmiaaGreat
open Go.RowKit
variable {dd : Bool}
section
variable {P : Program} {n : Nat} {Q : kA} {E : Nat → Value} {W : World} {ops : Array Oper} {rest : List Oper}
  {d : Option Nat} {ty : TypeId} {pos : String} {af : Array Edge} {g : Option (Nat × Bool)}
  {F : Nat → Prop} {w : World} {μ : aY} {L : List (Nat × Obj)}
def fY (P : Program) (E : Nat → Value) (o : Oper) (W : World) (K : Value → World → Prop) : Prop :=
  (∃ v W', (execOp (aR E) o).run P W = .ok (.value v) W' ∧ K v W') ∨ (∃ W', (execOp (aR E) o).run P W = .ok .skip W' ∧ K undef W') ∨
  (∃ f args, (execOp (aR E) o).run P W = .ok (.enter f args) W ∧ Calls P f args W fun e w' => ∃ v, e = .returned v ∧ K v w')
theorem fY.mono {o : Oper} {K K' : Value → World → Prop} (h : fY P E o W K) (hk : ∀ v W', K v W' → K' v W') : fY P E o W K' := by
  rcases h with ⟨v, W', h1, h2⟩ | ⟨W', h1, h2⟩ | ⟨f, args, h1, h2⟩
  · exact .inl ⟨v, W', h1, hk _ _ h2⟩
  · exact .inr (.inl ⟨W', h1, hk _ _ h2⟩)
  · exact .inr (.inr ⟨f, args, h1, Calls.mono h2 (fun _ _ ⟨v, h3, h4⟩ => ⟨v, h3, hk _ _ h4⟩)⟩)
theorem Eu {o : Oper} {dd : Nat} (hw : kJ n ops E o) (hd : o.dst = some dd) (hn : dd < n) (h : fY P E o W fun v W' => LW P n ops Q rest (jZ E dd v) W') : LW P n ops Q (o :: rest) E W := by
  rcases h with ⟨v, W', h1, h2⟩ | ⟨W', h1, h2⟩ | ⟨f, args, h1, h2⟩
  · exact BR hw hd hn h1 h2
  · intro a ha
    unfold wpList
    rw [if_pos (hw.of ha)]
    refine .inl ?_
    unfold Oper.wp
    rw [ha.eval, h1, Oper.upon_skip, hd]
    exact h2 _ (ha.put hn _)
  · exact Cx hw hd hn h1 h2
theorem E3 {o : Oper} (hw : kJ n ops E o) (hd : o.dst = none) (h : fY P E o W fun _ W' => LW P n ops Q rest E W') : LW P n ops Q (o :: rest) E W := by
  rcases h with ⟨v, W', h1, h2⟩ | ⟨W', h1, h2⟩ | ⟨f, args, h1, h2⟩
  · intro a ha
    unfold wpList
    rw [if_pos (hw.of ha)]
    refine .inl ?_
    unfold Oper.wp
    rw [ha.eval, h1, Oper.upon_value, hd]
    exact h2 _ (ha.put_none _)
  · exact Cq hw hd h1 h2
  · intro a ha
    unfold wpList
    rw [if_pos (hw.of ha)]
    refine .inl ?_
    unfold Oper.wp
    rw [ha.eval, h1, Oper.upon_enter]
    refine Calls.mono h2 ?_
    rintro e w' ⟨v, rfl, hl⟩
    simp only [hd]
    exact hl _ (ha.put_none _)
theorem cH {K : Value → World → Prop} {t : TypeId} {x : Operand} {v : Value} (hST : ST dd F w W μ L) (hx : aR E x = v)
    (h : ∀ W' b, ST dd F w W' μ ((b, .cells v.cells t (0, 0)) :: L) → K (.pointer (some ⟨b, 0, none⟩)) W') : fY P E ⟨d, .box t x, ty, pos, af, g⟩ W K :=
  .inl ⟨.pointer (some ⟨W.heap.size, 0, none⟩), W.alloc (.cells v.cells t (0, 0)), by
      show (do pure (.value (← Instr.box t (aR E x))) : Sem Next).run P W = _
      rw [hx]
      simp [Instr.box, newVar, newRow, newObj, Sem.run], h _ _ (hST.alloc _)⟩
theorem cA {K : Value → World → Prop} {t : TypeId} {z : Value} (hST : ST dd F w W μ L) (hz : ∀ w, (zeroValue t).run P w = .ok z w)
    (h : ∀ W' b, ST dd F w W' μ ((b, .cells z.cells t (0, 0)) :: L) → K (.pointer (some ⟨b, 0, none⟩)) W') : fY P E ⟨d, .alloc t, ty, pos, af, g⟩ W K :=
  .inl ⟨.pointer (some ⟨W.heap.size, 0, none⟩), W.alloc (.cells z.cells t (0, 0)), by
      show (do pure (.value (← Instr.alloc t true (.tuple #[]))) : Sem Next).run P W = _
      simp [Instr.alloc, hz W, newVar, newRow, newObj, Sem.run], h _ _ (hST.alloc _)⟩
theorem wK {t e : TypeId} {m k : Nat} {z : Value} {qs : Array (Nat × Value)} {cs : Array Value} (ht : P.underlying t = some (.slice e)) (hs : ∀ w, (sizeOf e).run P w = .ok k w) (hz : ∀ w, (zeroValue e).run P w = .ok z w)
    (hm : m * k ≤ 16777216) (hf : Instr.fill (fun i => some (i * k, k)) ((Array.range (m * k)).map (fun i => (if m * k = 0 then (#[] : Array Value) else z.cells)[i % (if m * k = 0 then (#[] : Array Value) else z.cells).size]!)) qs.toList = some cs) (W : World) :
    (Instr.buildSlice t m qs).run P W = .ok (.slice (some ⟨W.heap.size, 0, none⟩) m m) (W.alloc (.cells cs e (0, 0))) := by
  simp only [Instr.buildSlice, Sem.run_bind, run_underlying ht, Result.andThen_ok, hs W]
  rw [if_neg (by omega)]
  by_cases h0 : m * k = 0
  · simp only [h0, if_true] at hf ⊢
    simp only [Sem.run_bind, Sem.run_pure, Result.andThen_ok, hf]
    simp [newRow, newObj, Sem.run]
  · simp only [h0, if_false] at hf ⊢
    simp only [Sem.run_bind, hz W, Sem.run_pure, Result.andThen_ok, hf]
    simp [newRow, newObj, Sem.run]
theorem bU {K : Value → World → Prop} {t e : TypeId} {m : Nat} {ps : Array (Nat × Operand)} {qs : Array (Nat × Value)} {cs : Array Value} (hST : ST dd F w W μ L) (hq : ps.map (fun (i, x) => (i, aR E x)) = qs)
    (hr : ∀ W, (Instr.buildSlice t m qs).run P W = .ok (.slice (some ⟨W.heap.size, 0, none⟩) m m) (W.alloc (.cells cs e (0, 0))))
    (h : ∀ W' b, ST dd F w W' μ ((b, .cells cs e (0, 0)) :: L) → K (.slice (some ⟨b, 0, none⟩) m m) W') : fY P E ⟨d, .buildSlice t m ps, ty, pos, af, g⟩ W K :=
  .inl ⟨.slice (some ⟨W.heap.size, 0, none⟩) m m, W.alloc (.cells cs e (0, 0)), by
      show (do pure (.value (← Instr.buildSlice t m (ps.map fun (i, x) => (i, aR E x)))) : Sem Next).run P W = _
      rw [hq]
      simp [hr W], h _ _ (hST.alloc _)⟩
theorem ST.store {A B : List (Nat × Obj)} {b : Nat} {cs : Array Value} {t : TypeId} (hST : ST dd F w W μ (A ++ (b, .cells cs t (0, 0)) :: B)) (cs' : Array Value) :
    ST dd F w (W.setRow b cs') μ (A ++ (b, .cells cs' t (0, 0)) :: B) := by
  have hb := (hST.box b _ (by simp : (b, Obj.cells cs t (0, 0)) ∈ A ++ (b, .cells cs t (0, 0)) :: B)).1
  refine hST.put ⟨rfl, rfl, rfl, Nat.le_refl _, by simp [World.setRow]⟩ (fun k hk => ?_) (setRow_heap W b cs cs' t (0, 0) hb)
  simp only [World.setRow, Array.getElem?_modify]
  rw [if_neg (fun e => hk e.symm)]
theorem pe (P : Program) {W : World} {t : TypeId} {b off : Nat} {cs : Array Value} {T : TypeId} (v : Value) (hS : ∀ w, (sizeOf t).run P w = .ok v.cells.size w) (h1 : ∀ u ∈ v.cells.toList, u.oneCell' = true)
    (hb : W.heap[b]? = some (.cells cs T (0, 0))) (hl : off + v.cells.size ≤ cs.size) : (Instr.storeAt t (.pointer (some ⟨b, off, none⟩)) v).run P W = .ok () (W.setRow b (cs.toList.take off ++ v.cells.toList ++ cs.toList.drop (off + v.cells.size)).toArray) := by
  have := run_storeCells_at (P := P) b off T v.cells.toList 0 cs W hb (by simpa using hl) h1
  simp [Instr.storeAt, Instr.sureAddr, storeVar, hS W]
  simpa using this
theorem DH {K : Value → World → Prop} (A : List (Nat × Obj)) {B : List (Nat × Obj)} {t : TypeId} {x y : Operand} (v : Value) {b off : Nat} {cs : Array Value} {T : TypeId} (cs' : Array Value) (hST : ST dd F w W μ (A ++ (b, .cells cs T (0, 0)) :: B))
    (hx : aR E x = .pointer (some ⟨b, off, none⟩)) (hy : aR E y = v) (hS : ∀ w, (sizeOf t).run P w = .ok v.cells.size w)
    (h1 : ∀ u ∈ v.cells.toList, u.oneCell' = true) (hl : off + v.cells.size ≤ cs.size) (hc : (cs.toList.take off ++ v.cells.toList ++ cs.toList.drop (off + v.cells.size)).toArray = cs')
    (h : ∀ W', ST dd F w W' μ (A ++ (b, .cells cs' T (0, 0)) :: B) → K undef W') : fY P E ⟨d, .store t x y, ty, pos, af, g⟩ W K :=
  .inr (.inl ⟨W.setRow b cs', by
      show (do Instr.storeAt t (aR E x) (aR E y); pure .skip : Sem Next).run P W = _
      have hb := (hST.box b _ (by simp : (b, Obj.cells cs T (0, 0)) ∈ A ++ (b, .cells cs T (0, 0)) :: B)).1
      rw [hx, hy]
      simp only [Sem.run_bind, pe P v hS h1 hb hl, hc, Result.andThen_ok, Sem.run_pure], h _ (hST.store cs')⟩)
def bW (dd : Bool) (P : Program) (f : FuncId) (args : List Value) (w : World) (v : Value) : Prop := Calls P f args.toArray w fun e w' => e = .returned v ∧ Ex dd w w'
theorem Bg {f : FuncId} {fv : Operand} {ax : Array Operand} {ats : Array TypeId} {caps : Array Value} {args : Array Value}
    (hf : aR E fv = .func (.func f) #[] caps) (he : ∀ args w, (callFunc f args).run P w = .ok (.enter f args) w) (ha : ax.map (aR E) ++ caps = args) :
    (execOp (aR E) ⟨d, .call ⟨.value fv, ax, ats⟩, ty, pos, af, g⟩).run P W = .ok (.enter f args) W := by
  show (do let d ← resolve (aR E) ⟨.value fv, ax, ats⟩ ty; invoke d.target d.args : Sem Next).run P W = _
  rw [← ha]
  simp only [resolve, hf, Deferred.ofValue, Sem.run_bind, Sem.run_pure, Result.andThen_ok, invoke]
  simp [he]
theorem uk {K : Value → World → Prop} {f : FuncId} {fv : Operand} {ax : Array Operand} {ats : Array TypeId} {caps : Array Value} {args : Array Value}
    (hf : aR E fv = .func (.func f) #[] caps) (he : ∀ args w, (callFunc f args).run P w = .ok (.enter f args) w) (ha : ax.map (aR E) ++ caps = args)
    (h : Calls P f args W fun e w' => ∃ v, e = .returned v ∧ K v w') : fY P E ⟨d, .call ⟨.value fv, ax, ats⟩, ty, pos, af, g⟩ W K :=
  .inr (.inr ⟨f, args, Bg hf he ha, h⟩)
theorem uA {K : Value → World → Prop} {f : FuncId} {fv : Operand} {ax : Array Operand} {ats : Array TypeId} {args : List Value} {v : Value} (hST : ST dd F w W μ L)
    (hf : aR E fv = .func (.func f) #[] #[]) (he : ∀ args w, (callFunc f args).run P w = .ok (.enter f args) w) (ha : (ax.map (aR E) ++ (#[] : Array Value)) = args.toArray) (hc : bW dd P f args W v)
    (h : ∀ W', ST dd F w W' μ L → K v W') : fY P E ⟨d, .call ⟨.value fv, ax, ats⟩, ty, pos, af, g⟩ W K :=
  uk hf he ha (Calls.mono hc (fun _ _ ⟨h1, h2⟩ => ⟨v, h1, h _ (hST.call0 h2)⟩))
def bE {α : Type} (e : TypeId) (enc : α → List Value) (k : Nat) (v : Value) (l : List α) (R : List (Nat × Obj)) : Prop :=
  (v = .slice none 0 0 ∧ l = [] ∧ R = []) ∨
  ∃ g cap cur, v = .slice (some ⟨g, 0, none⟩) l.length cap ∧ R = [(g, .cells cur e (0, 0))] ∧ l.length ≤ cap ∧ cap ≤ maxLen ∧ cur.size = cap * k ∧ cur.toList.take (l.length * k) = (l.map enc).flatten
theorem iZ {α : Type} {enc : α → List Value} {k : Nat} (hk : ∀ x, (enc x).length = k) : ∀ l : List α, (l.map enc).flatten.length = l.length * k
  | [] => by simp
  | x :: l => by simp [iZ hk l, hk x, Nat.add_mul, Nat.add_comm]
theorem nC {α : Type} {enc : α → List Value} {k : Nat} (hk : ∀ x, (enc x).length = k) : ∀ (l : List α) (i : Nat) (x : α), l[i]? = some x → ∀ j y, (enc x)[j]? = some y → (l.map enc).flatten[i * k + j]? = some y
  | [], i, x, h => by cases h
  | z :: l, 0, x, h => by
    simp at h; subst h
    intro j y hy
    have hj : j < (enc z).length := (List.getElem?_eq_some_iff.1 hy).1
    simp [List.getElem?_append, hj]
    rw [List.getElem?_eq_getElem hj] at hy
    simpa using hy
  | z :: l, i + 1, x, h => by
    intro j y hy
    have := nC hk l i x (by simpa using h) j y hy
    simp only [List.map_cons, List.flatten_cons]
    rw [List.getElem?_append_right (by rw [hk z]; have := Nat.le_mul_of_pos_left k (Nat.succ_pos i); simp [Nat.add_mul] at *; omega), hk z]
    rw [show (i + 1) * k + j - k = i * k + j by rw [Nat.add_mul]; omega]
    exact this
theorem vo {α : Type} {enc : α → List Value} {k : Nat} (hk : ∀ x, (enc x).length = k) : ∀ (l : List α) (q : Nat) (y : Value), (l.map enc).flatten[q]? = some y → ∃ i x j, l[i]? = some x ∧ (enc x)[j]? = some y ∧ q = i * k + j
  | [], q, y, h => by simp at h
  | z :: l, q, y, h => by
    simp only [List.map_cons, List.flatten_cons] at h
    by_cases hq : q < k
    · rw [List.getElem?_append_left (by rw [hk]; exact hq)] at h
      exact ⟨0, z, q, rfl, h, by simp⟩
    · rw [List.getElem?_append_right (by rw [hk]; omega), hk] at h
      obtain ⟨i, x, j, h1, h2, h3⟩ := vo hk l (q - k) y h
      exact ⟨i + 1, x, j, by simpa using h1, h2, by rw [Nat.add_mul]; omega⟩
theorem bE.nil {α : Type} (e : TypeId) (enc : α → List Value) (k : Nat) : bE e enc k (.slice none 0 0) [] [] := .inl ⟨rfl, rfl, rfl⟩
theorem bE.sl {α : Type} {e : TypeId} {enc : α → List Value} {k : Nat} {v : Value} {l : List α} {R : List (Nat × Obj)} {m : aY} (h : bE e enc k v l R) (hk : ∀ x, (enc x).length = k) (hm : ∀ b o, (b, o) ∈ R → m b = some o) : Sl (Pl enc) k m v l := by
  rcases h with ⟨rfl, rfl, rfl⟩ | ⟨g, cap, cur, rfl, rfl, h1, h2, h3, h4⟩
  · exact Sl.nil _ _ _
  · refine ⟨_, cap, rfl, h1, h2, fun _ => ⟨g, 0, cur, e, (0, 0), rfl, hm _ _ (by simp), fun i x hx => ⟨enc x, hk x, rfl, fun j y hy => ?_⟩⟩⟩
    have := nC hk l i x hx j y hy
    rw [← h4] at this
    have hlt : i * k + j < l.length * k := by
      have := (List.getElem?_eq_some_iff.1 this).1
      simp at this; omega
    rw [List.getElem?_take_of_lt hlt] at this
    simpa using this
theorem bE.len {α : Type} {e : TypeId} {enc : α → List Value} {k : Nat} {v : Value} {l : List α} {R : List (Nat × Obj)} (h : bE e enc k v l R) : l.length ≤ 9223372036854775807 := by
  rcases h with ⟨rfl, rfl, rfl⟩ | ⟨g, cap, cur, rfl, rfl, h1, h2, h3, h4⟩
  · simp
  · unfold maxLen at h2; omega
theorem bE.fr {α : Type} {e : TypeId} {enc : α → List Value} {k : Nat} {v : Value} {l : List α} {R X Y : List (Nat × Obj)} (h : bE e enc k v l R) (hST : ST dd dW w W μ (X ++ (R ++ Y))) : Fr w.heap.size v := by
  rcases h with ⟨rfl, rfl, rfl⟩ | ⟨g, cap, cur, rfl, rfl, h1, h2, h3, h4⟩
  · exact Fr.nil _
  · intro b hb
    simp [Value.ownBlock] at hb
    subst hb
    rcases (hST.box g _ (by simp; exact .inr (.inl rfl))).2.2 with h | h
    · exact h
    · exact h.elim
theorem bE.lit {α : Type} {e : TypeId} {enc : α → List Value} {k b m : Nat} {l : List α} {cs : Array Value} (hm : l.length = m) (hM : m ≤ maxLen) (hc : cs.toList = (l.map enc).flatten) (hs : cs.size = m * k) : bE e enc k (.slice (some ⟨b, 0, none⟩) m m) l [(b, .cells cs e (0, 0))] := by
  subst hm
  refine .inr ⟨b, _, cs, rfl, rfl, Nat.le_refl _, hM, hs, ?_⟩
  rw [← hc, ← hs]
  exact List.take_of_length_le (by rw [Array.length_toList]; exact Nat.le_refl _)
def gT {α : Type} (by_ : Nat) (l m : List α) : Option (List α) := if (l.length + m.length) * by_ ≤ 140737488355328 ∧ l.length + m.length ≤ maxLen then some (l ++ m) else none
theorem yK {K : Value → World → Prop} {α : Type} {e t : TypeId} {enc : α → List Value} {k by_ : Nat} {z v vs : Value} {l m r : List α} {R : List (Nat × Obj)} (X : List (Nat × Obj)) {Y : List (Nat × Obj)} {x y : Operand} {i : TypeInfo}
    (hST : ST dd F w W μ (X ++ (R ++ Y))) (hk : ∀ x, (enc x).length = k) (hk0 : 0 < k) (h1 : ∀ x, ∀ u ∈ enc x, u.oneCell' = true) (ht : P.underlying t = some (.slice e)) (hi : P.info? e = some i) (hz : i.zero = some z) (hzs : z.cells.size = k) (hsz : i.size = k) (hby : i.bytes = by_)
    (hx : aR E x = v) (hy : aR E y = vs) (hR : bE e enc k v l R) (hs : Sl (Pl enc) k (hp W) vs m) (hb : gT by_ l m = some r)
    (h : ∀ W' v' R', ST dd F w W' μ (X ++ (R' ++ Y)) → bE e enc k v' r R' → K v' W') : fY P E ⟨d, .call ⟨.builtin .append, #[x, y], #[t, t]⟩, ty, pos, af, g⟩ W K := by
  unfold gT at hb
  split at hb
  case isFalse => cases hb
  rename_i hbb
  cases hb
  have hrun : ∀ (V : Value) (W' : World), (Builtin.append_ #[t, t] ty #[v, vs]).run P W = .ok V W' → (execOp (aR E) ⟨d, .call ⟨.builtin .append, #[x, y], #[t, t]⟩, ty, pos, af, g⟩).run P W = .ok (.value V) W' := by
    intro V W' hV
    show (do let d ← resolve (aR E) ⟨.builtin .append, #[x, y], #[t, t]⟩ ty; invoke d.target d.args : Sem Next).run P W = _
    simp [resolve, invoke, builtin, hx, hy, hV]
  obtain ⟨A, c, rfl, hc1, hc2, hc3⟩ := hs
  have hown : W.ownsRow 0 e k v l.length (l.map enc).flatten := by
    refine ⟨iZ hk l, ?_⟩
    rcases hR with ⟨rfl, rfl, rfl⟩ | ⟨g, cap, cur, rfl, rfl, h1, h2, h3, h4⟩
    · exact .inl ⟨rfl, rfl⟩
    · exact .inr ⟨g, cap, cur, rfl, Nat.zero_le _, (hST.box g _ (by simp)).1, h1, h2, h3, h4⟩
  have hsrc : m.length = 0 ∨ ∃ ad, A = some ad ∧ ∀ j u, (m.map enc).flatten[j]? = some u → W.cell? (ad.add j) = some u := by
    rcases Nat.eq_zero_or_pos m.length with h0 | h0
    · exact .inl h0
    · obtain ⟨b, off, cs, T, fr, rfl, h6, h7⟩ := hc3 h0
      refine .inr ⟨⟨b, off, none⟩, rfl, fun j u hu => ?_⟩
      obtain ⟨i, x, q, h8, h9, rfl⟩ := vo hk m j u hu
      obtain ⟨ys, _, h11, h12⟩ := h7 i x h8
      cases h11
      rw [Addr.add_lit, cell_of_row W b (off + (i * k + q)) cs T fr h6, ← Nat.add_assoc]
      exact h12 q u h9
  have hone : ∀ u ∈ (m.map enc).flatten, u.oneCell' = true := by
    intro u hu
    obtain ⟨ys, hys, hu'⟩ := List.mem_flatten.1 hu
    obtain ⟨x, _, rfl⟩ := List.mem_map.1 hys
    exact h1 x u hu'
  by_cases hm0 : m.length = 0
  · have hm : m = [] := List.eq_nil_of_length_eq_zero hm0
    subst hm
    have hr : (Builtin.append_ #[t, t] ty #[v, .slice A 0 c]).run P W = .ok v W := by
      rcases hown.2 with ⟨rfl, h0⟩ | ⟨g, cap, cur, rfl, _, hg, hnc, _, hcs, _⟩
      · cases A with
        | none => simp [Builtin.append_, run_underlying ht, sizeOf, typeInfo, hi, Builtin.lenOf, Builtin.firstCells]
        | some ad => simp [Builtin.append_, run_underlying ht, sizeOf, typeInfo, hi, Builtin.lenOf, Builtin.firstCells, loadCells, loadCellsFrom]
      · cases A with
        | none => simp [Builtin.append_, run_underlying ht, sizeOf, typeInfo, hi, Builtin.lenOf, Builtin.firstCells, hnc, storeCells]
        | some ad => simp [Builtin.append_, run_underlying ht, sizeOf, typeInfo, hi, Builtin.lenOf, Builtin.firstCells, loadCells, loadCellsFrom, hnc, storeCells]
    exact .inl ⟨v, W, hrun _ _ (by simpa using hr), by simpa using h W v R hST (by simpa using hR)⟩
  rcases hsrc with h0 | ⟨ad, rfl, hcells⟩
  · exact absurd h0 hm0
  obtain ⟨v', W', hr, hown', hgrow, hnil, hwhere⟩ := run_append_own_at (P := P) W 0 t ty e i z k by_ ht hi hz hsz hby hzs hk0 v l.length (l.map enc).flatten hown ad m.length c (m.map enc).flatten (iZ hk m) hcells hone hbb.2 hbb.1 (Nat.zero_le _)
  have hdr := ib _ _ _ _ hr
  refine .inl ⟨v', W', hrun _ _ hr, ?_⟩
  have hlen : (l ++ m).length = l.length + m.length := by simp
  rcases hown'.2 with ⟨_, h0⟩ | ⟨g', cap', cur', rfl, _, hg', hnc', hcm', hcs', htk'⟩
  · omega
  have hrow' : bE e enc k (.slice (some ⟨g', 0, none⟩) (l.length + m.length) cap') (l ++ m) [(g', .cells cur' e (0, 0))] :=
    .inr ⟨g', cap', cur', by rw [hlen], rfl, by omega, hcm', hcs', by rw [hlen, htk']; simp⟩
  refine h W' _ _ ?_ hrow'
  have hnd := hST.nd
  rcases hR with ⟨rfl, rfl, rfl⟩ | ⟨g, cap, cur, rfl, rfl, q1, q2, q3, q4⟩
  · -- nil: a new block
    have hnew : W.heap.size ≤ g' := by
      rcases hwhere with h | h <;> simp [Value.ownBlock] at h
      omega
    have hex : Ex dd W W' := ⟨hgrow.os, hgrow.tape, hgrow.output, lF.of hdr, hgrow.size, fun b hb => hgrow.block b hb (by simp [Value.ownBlock])⟩
    have h1 := hST.call0 hex
    refine ⟨h1.os, h1.tape, h1.output, h1.drawn, h1.size, h1.old, h1.mem, fun b o hb => ?_, ?_⟩
    · simp only [List.mem_append, List.mem_singleton] at hb
      rcases hb with hb | hb | hb
      · exact h1.box b o (by simp [hb])
      · cases hb
        refine ⟨hg', ?_, .inl (Nat.le_trans hST.size hnew)⟩
        cases hm : μ g' with
        | none => rfl
        | some x => have := hST.mu_lt hm; omega
      · exact h1.box b o (by simp [hb])
    · simp only [List.nil_append, List.map_append, List.map_cons, List.singleton_append] at hnd ⊢
      refine (List.Perm.nodup_iff List.perm_middle).2 (List.nodup_cons.2 ⟨fun hm => ?_, hnd⟩)
      rw [← List.map_append] at hm
      obtain ⟨⟨b, o⟩, hb, e1⟩ := List.mem_map.1 hm
      have hb' : (b, o) ∈ X ++ ([] ++ Y) := by simpa using hb
      have := hST.box_lt hb'
      simp at e1
      omega
  · by_cases hgg : g' = g
    · subst hgg
      have h0 : ST dd F w W μ (X ++ (g', Obj.cells cur e (0, 0)) :: Y) := by simpa using hST
      have hold : ∀ b, b < W.heap.size → b ≠ g' → W'.heap[b]? = W.heap[b]? := fun b hb hne => hgrow.block b hb (by simp [Value.ownBlock]; exact hne)
      have hnd0 := h0.nd
      simp only [List.map_append, List.map_cons] at hnd0
      have hne : ∀ b o, (b, o) ∈ X ++ Y → b ≠ g' := fun b o hb e1 => by
        subst e1
        rcases List.mem_append.1 hb with hb | hb
        · exact (List.nodup_append.1 hnd0).2.2 b (List.mem_map.2 ⟨_, hb, rfl⟩) b (by simp) rfl
        · exact (List.nodup_cons.1 (List.nodup_append.1 hnd0).2.1).1 (List.mem_map.2 ⟨_, hb, rfl⟩)
      have hgb := h0.box g' (Obj.cells cur e (0, 0)) (by simp)
      refine ⟨hgrow.os.trans hST.os, hgrow.tape.trans hST.tape, hgrow.output.trans hST.output, lF.trans hST.drawn (lF.of hdr), Nat.le_trans hST.size hgrow.size, fun b hb hF => ?_, fun b o hb => ?_, fun b o hb => ?_, by simpa using hnd0⟩
      · rw [hold b (Nat.lt_of_lt_of_le hb hST.size) (fun e1 => by subst e1; rcases hgb.2.2 with h | h; omega; exact hF h)]
        exact hST.old b hb hF
      · rw [hold b (hST.mu_lt hb) (fun e1 => by subst e1; rw [hgb.2.1] at hb; cases hb)]
        exact hST.mem b o hb
      · simp only [List.mem_append, List.mem_singleton] at hb
        rcases hb with hb | hb | hb
        · obtain ⟨r1, r2⟩ := hST.box b o (by simp [hb])
          exact ⟨by rw [hold b (gF r1) (hne b o (by simp [hb]))]; exact r1, r2⟩
        · cases hb; exact ⟨hg', hgb.2⟩
        · obtain ⟨r1, r2⟩ := hST.box b o (by simp [hb])
          exact ⟨by rw [hold b (gF r1) (hne b o (by simp [hb]))]; exact r1, r2⟩
    · have hnew : W.heap.size ≤ g' := by
        rcases hwhere with h | h <;> simp [Value.ownBlock] at h
        · exact absurd h hgg
        · omega
      have h0 : ST dd F w W μ (X ++ (g, Obj.cells cur e (0, 0)) :: Y) := by simpa using hST
      have hgb := h0.box g (Obj.cells cur e (0, 0)) (by simp)
      have hnd0 := h0.nd
      simp only [List.map_append, List.map_cons] at hnd0
      have hne : ∀ b o, (b, o) ∈ X ++ Y → b ≠ g := fun b o hb e1 => by
        subst e1
        rcases List.mem_append.1 hb with hb | hb
        · exact (List.nodup_append.1 hnd0).2.2 b (List.mem_map.2 ⟨_, hb, rfl⟩) b (by simp) rfl
        · exact (List.nodup_cons.1 (List.nodup_append.1 hnd0).2.1).1 (List.mem_map.2 ⟨_, hb, rfl⟩)
      have hold : ∀ b, b < W.heap.size → b ≠ g → W'.heap[b]? = W.heap[b]? := fun b hb hne => hgrow.block b hb (by simp [Value.ownBlock]; exact hne)
      refine ⟨hgrow.os.trans hST.os, hgrow.tape.trans hST.tape, hgrow.output.trans hST.output, lF.trans hST.drawn (lF.of hdr), Nat.le_trans hST.size hgrow.size, fun b hb hF => ?_, fun b o hb => ?_, fun b o hb => ?_, ?_⟩
      · rw [hold b (Nat.lt_of_lt_of_le hb hST.size) (fun e1 => by subst e1; rcases hgb.2.2 with h | h; omega; exact hF h)]
        exact hST.old b hb hF
      · rw [hold b (hST.mu_lt hb) (fun e1 => by subst e1; rw [hgb.2.1] at hb; cases hb)]
        exact hST.mem b o hb
      · simp only [List.mem_append, List.mem_singleton] at hb
        rcases hb with hb | hb | hb
        · obtain ⟨r1, r2⟩ := hST.box b o (by simp [hb])
          exact ⟨by rw [hold b (gF r1) (hne b o (by simp [hb]))]; exact r1, r2⟩
        · cases hb
          refine ⟨hg', ?_, .inl (Nat.le_trans hST.size hnew)⟩
          cases hm : μ g' with
          | none => rfl
          | some x => have := hST.mu_lt hm; omega
        · obtain ⟨r1, r2⟩ := hST.box b o (by simp [hb])
          exact ⟨by rw [hold b (gF r1) (hne b o (by simp [hb]))]; exact r1, r2⟩
      · have hXY : (X.map (·.1) ++ Y.map (·.1)).Nodup := (List.nodup_cons.1 ((List.Perm.nodup_iff List.perm_middle).1 hnd0)).2
        simp only [List.map_append, List.map_cons, List.singleton_append]
        refine (List.Perm.nodup_iff List.perm_middle).2 (List.nodup_cons.2 ⟨fun hm => ?_, hXY⟩)
        rw [← List.map_append] at hm
        obtain ⟨⟨b, o⟩, hb, e1⟩ := List.mem_map.1 hm
        have := hST.box_lt (b := b) (o := o) (by rcases List.mem_append.1 hb with h | h <;> simp [h])
        simp at e1
        omega
end
end Go.Proofs.YtmlncblocfcmiaaGreat
namespace Go.Proofs.YtmlncblocfcmiaaGreat
open Go.RowKit
def xU (l : List Value) : Nat → Value := fun t => l.getD t undef
def qu (P : Program) (fn : Func) (R : Ending → World → Prop) : kA
  | .normal, E, W | .ret, E, W => ∃ v, (∀ tmps : Array Value, (∀ t, tmps.getD t undef = E t) → (results fn tmps).run P W = .ok v W) ∧ R (.returned v) W
  | _, _, _ => False
theorem zw {P : Program} {f : FuncId} {fn : Func} {c : Code} {args : List Value} {w : World} {R : Ending → World → Prop} {n : Nat}
    (hf : P.funcs[f]? = some fn) (hb : fn.body = some c) (hn : fn.ntmps = n) (ha : args.length ≤ n)
    (h : CW P n c (qu P fn R) (xU args) w) : Calls P f args.toArray w R := by
  refine calls_of_wp hf hb ?_
  have hag : Ag n { tmps := args.toArray ++ Array.replicate (fn.ntmps - args.toArray.size) undef, defers := [] } (xU args) := by
    refine ⟨by simp; omega, rfl, fun t => ?_⟩
    simp only [xU, Array.getD_eq_getD_getElem?, List.getD_eq_getElem?_getD, Array.getElem?_append, Array.getElem?_replicate, List.size_toArray, List.getElem?_toArray]
    by_cases ht : t < args.length
    · rw [if_pos ht]
    · rw [if_neg ht, List.getElem?_eq_none (by omega)]
      split <;> simp
  refine wp_mono (h _ hag) (fun e a w' hl => ?_)
  cases e with
  | normal =>
    obtain ⟨E, hE, v, hv, hR⟩ := hl
    exact ⟨hE.2.1, v, hv _ hE.2.2, hR⟩
  | ret =>
    obtain ⟨E, hE, v, hv, hR⟩ := hl
    exact ⟨hE.2.1, v, hv _ hE.2.2, hR⟩
  | exit id => obtain ⟨E, hE, h⟩ := hl; exact h.elim
  | goto l => obtain ⟨E, hE, h⟩ := hl; exact h.elim
  | panic c => exact hl.elim
  | outgrown => exact hl.elim
section
variable {P : Program} {fn : Func} {R : Ending → World → Prop} {E : Nat → Value} {W : World}
theorem dI {r : Tmp} {v : Value} (hr : fn.results = #[.tmp r]) (hv : E r = v) (h : R (.returned v) W) : qu P fn R .ret E W :=
  ⟨v, fun tmps ht => by rw [results_tmp hr, ht, hv], h⟩
theorem tR {r s : Tmp} {v u : Value} (hr : fn.results = #[.tmp r, .tmp s]) (hv : E r = v) (hu : E s = u) (h : R (.returned (.tuple #[v, u])) W) : qu P fn R .ret E W :=
  ⟨.tuple #[v, u], fun tmps ht => by rw [results_tmp2 hr, ht, ht, hv, hu], h⟩
theorem ir (hr : fn.results = #[]) (h : R (.returned (.tuple #[])) W) : qu P fn R .ret E W :=
  ⟨.tuple #[], fun tmps _ => by rw [results_none hr], h⟩
theorem ju {r : Tmp} {t : TypeId} {a : Addr} {v : Value} (hr : fn.results = #[.cell r t]) (hx : E r = .pointer (some a)) (hv : (Instr.loadAt t (.pointer (some a))).run P W = .ok v W) (h : R (.returned v) W) : qu P fn R .ret E W :=
  ⟨v, fun tmps ht => by
    have h1 : (loadVar t a).run P W = .ok v W := by simpa [Instr.loadAt, Instr.sureAddr] using hv
    simp [results, hr, ht, hx, asAddr, h1], h⟩
theorem jy (h : qu P fn R .ret E W) : qu P fn R .normal E W := h
end
section
variable {Q : kA} {E : Nat → Value} {W : World} {K : (Nat → Value) → World → Prop} {id j : Nat}
theorem cM (h : Q .normal E W) : oX id Q .normal E W := h
theorem gA (h : Q .ret E W) : oX id Q .ret E W := h
theorem li (h : Q .normal E W) : oX id Q (.exit id) E W := by simp [oX]; exact h
theorem EP (hne : (j = id) = False) (h : Q (.exit j) E W) : oX id Q (.exit j) E W := by simp only [oX, hne, if_false]; exact h
theorem aG (h : K E W) : pp K Q .normal E W := h
theorem cR (h : Q .ret E W) : pp K Q .ret E W := h
theorem gc (h : Q (.exit j) E W) : pp K Q (.exit j) E W := h
end
theorem Bh {i N : Nat} (hi : i < N) (hN : N ≤ 9223372036854775807) : IntKind.i64.wrap ((i : Int) + 1) = ((i + 1 : Nat) : Int) := by
  rw [IntWalk.i64_in _ (by omega)]
  omega
theorem dP {P : Program} {n : Nat} {Q : kA} {E : Nat → Value} {W : World} {id0 id1 r2 r6 tc ti tn ts : Nat} {t1 t2 t3 t4 t5 t6 t7 : TypeId} {p1 p2 p3 : String} {f1 f2 f3 : Array Edge} {body : Code}
    (I : Nat → (Nat → Value) → World → Prop) (N : Nat) (hN : N ≤ 9223372036854775807) (h0 : I 0 E W) (hc : tc < n) (hs : ts < n) (hti : ti < n)
    (hI : ∀ i E W, I i E W → E ti = .int .i64 (i : Nat) ∧ E tn = .int .i64 (N : Nat))
    (round : ∀ i E W, i < N → I i E W → CW P n (.block id1 body) (pp (fun E' W' => E' ti = .int .i64 (i : Nat) ∧ I (i + 1) (jZ (jZ E' ts (.int .i64 ((i + 1 : Nat) : Int))) ti (.int .i64 ((i + 1 : Nat) : Int))) W') (oX id0 Q)) (jZ E tc (.bool true)) W)
    (done : ∀ E W, I N E W → Q .normal (jZ E tc (.bool false)) W) :
    CW P n (.block id0 (.loop (.seq (.region r2 #[⟨some tc, .binOp .lss t1 (.tmp ti) (.tmp tn) t2, t3, p1, f1, none⟩] false)
      (.seq (.cond (.tmp tc) .skip (.exit id0)) (.seq (.block id1 body)
        (.region r6 #[⟨some ts, .binOp .add t4 (.tmp ti) (.const (.int .i64 1)) t5, t6, p2, f2, none⟩, ⟨some ti, .move (.tmp ts), t7, p3, f3, none⟩] false)))))) Q E W := by
  refine aU (gH (fun m E W => ∃ i, i ≤ N ∧ m = N - i ∧ I i E W) N ⟨0, Nat.zero_le _, by omega, h0⟩ ?_)
  rintro m E W ⟨i, hi, rfl, hIi⟩
  obtain ⟨hE1, hE2⟩ := hI i E W hIi
  refine aC (aA (wX (.inl rfl) rfl hc (aP hE1 hE2 rfl) (aD ?_)))
  refine aG (aC ?_)
  have e1 : jZ E tc (.bool (decide ((i : Int) < (N : Int)))) tc = .bool (decide ((i : Int) < (N : Int))) := by simp [jZ]
  by_cases hlt : i < N
  · have hd : decide ((i : Int) < (N : Int)) = true := by simp; omega
    rw [hd] at e1 ⊢
    refine nF e1 (aT (aG (aC ?_)))
    refine wR (round i E W hlt hIi) (fun e E' W' h => ?_)
    cases e with
    | normal =>
      obtain ⟨h1, h2⟩ := h
      refine aG ?_
      have hw : IntKind.i64.wrap ((i : Int) + 1) = ((i + 1 : Nat) : Int) := Bh hlt hN
      refine aA (wX (v := .int .i64 ((i + 1 : Nat) : Int)) (.inl rfl) rfl hs (aP (k := .i64) (a := (i : Int)) (b := 1) h1 rfl (by simp only [AL, hw])) ?_)
      refine wX (v := .int .i64 ((i + 1 : Nat) : Int)) (.inl rfl) rfl hti (aB (by simp [aR, jZ])) (aD ?_)
      exact aG ⟨N - (i + 1), by omega, i + 1, by omega, rfl, h2⟩
    | exit j => exact h
    | goto l => exact h
    | ret => exact h
    | panic c => exact h
    | outgrown => exact h
  · have hd : decide ((i : Int) < (N : Int)) = false := by simp; omega
    rw [hd] at e1 ⊢
    obtain rfl : i = N := by omega
    refine kp e1 (gI (gc (gc (li ?_))))
    exact done E W hIi
theorem BK {P : Program} {n : Nat} {x : Code} {Q : kA} {K : (Nat → Value) → World → Prop} {E : Nat → Value} {W : World} (J : (Nat → Value) → World → Prop) (h : CW P n x (pp J Q) E W) (k : ∀ E W, J E W → K E W) : CW P n x (pp K Q) E W :=
  wR h (fun e E W h => by cases e <;> first | exact k E W h | exact h)
theorem Et {α : Type} {c : Bool} {x y : α} {r : α} (hc : c = true) (h : (if c = true then x else y) = r) : x = r := by rw [if_pos hc] at h; exact h
theorem Ei {α : Type} {c : Bool} {x y : α} {r : α} (hc : c = false) (h : (if c = true then x else y) = r) : y = r := by rw [if_neg (by rw [hc]; decide)] at h; exact h
theorem bind_some {α β : Type} {o : Option α} {f : α → Option β} {r : β} (h : o.bind f = some r) : ∃ y, o = some y ∧ f y = some r := by
  cases o with
  | none => cases h
  | some y => exact ⟨y, rfl, h⟩
theorem Bb (b : Bool) : b = true ∨ b = false := by cases b <;> simp
theorem dB {α : Type} {l : List α} {i : Nat} (h : i < l.length) : ∃ x xs, l.drop i = x :: xs ∧ l[i]? = some x ∧ l.drop (i + 1) = xs := by
  cases hd : l.drop i with
  | nil => have := congrArg List.length hd; simp at this; omega
  | cons x xs => exact ⟨x, xs, rfl, by rw [← List.head?_drop, hd]; rfl, by rw [← List.drop_drop, hd]; rfl⟩
theorem tT {P : Program} {W : World} (d : Nat) (xs ys : Array Value) : (Op.eqFields d xs ys []).run P W = .ok true W := by simp [Op.eqFields]
theorem jP {P : Program} {W : World} {d : Nat} {xs ys : Array Value} {f : Field} {fs : List Field} {a b : Value} {r s : Bool} (hn : f.name ≠ "_") (ha : (part f.type xs f.offset).run P W = .ok a W) (hb : (part f.type ys f.offset).run P W = .ok b W)
    (he : (Op.equalIn d f.type a b).run P W = .ok r W) (h : (Op.eqFields d xs ys fs).run P W = .ok s W) : (Op.eqFields d xs ys (f :: fs)).run P W = .ok (r && s) W := by
  simp only [Op.eqFields, ne_eq, hn, not_false_eq_true, if_true, Sem.run_bind, ha, hb, he, Result.andThen_ok]
  cases r <;> simp [h]
theorem pn {P : Program} {W : World} {t : TypeId} {k : Nat} {cs : Array Value} {off : Nat} {v : Array Value} (hA : ∀ w, (isAgg t).run P w = .ok true w) (hS : ∀ w, (sizeOf t).run P w = .ok k w) (hv : cs.extract off (off + k) = v) : (part t cs off).run P W = .ok (.agg v) W := by
  simp [part, hA W, hS W, hv]
theorem kH {P : Program} {W : World} {t : TypeId} {cs : Array Value} {off : Nat} {v : Value} (hA : ∀ w, (isAgg t).run P w = .ok false w) (hv : cs[off]? = some v) : (part t cs off).run P W = .ok v W := by
  simp [part, hA W, hv]
def eT (a b : ByteArray) : Bool := a.toList == b.toList
theorem Dh {P : Program} {t : TypeId} (ht : P.underlying t = some .string) (d : Nat) (a b : ByteArray) (W : World) : (Op.equalIn (d + 1) t (.string a) (.string b)).run P W = .ok (eT a b) W := run_equalIn_string W d t a b ht
theorem FP {P : Program} {t : TypeId} {k : IntKind} (ht : P.underlying t = some (.int k)) (d : Nat) (a b : Int) (W : World) : (Op.equalIn (d + 1) t (.int k a) (.int k b)).run P W = .ok (a == b) W := run_equalIn_int W d t k k a b ht
theorem kT {P : Program} {op : BinOp} {t : TypeId} {x y : Operand} {a b : Array Value} (hg : P.eqGuardType P.depth t = false) (W : World) : (eqGuard op t x y (.agg a) (.agg b)).run P W = .ok () W := by
  cases op <;> simp [eqGuard] <;> (intro h; rw [hg] at h; cases h)
theorem nP {P : Program} {t : TypeId} {a b : Array Value} {r : Bool} (h : ∀ W, (Op.equalIn Op.maxDepth t (.agg a) (.agg b)).run P W = .ok r W) (W : World) : (binOp .eql t (.agg a) (.agg b)).run P W = .ok (.bool r) W := by
  simp [binOp, Op.equal, h W]
theorem DL {P : Program} {t : TypeId} {a b : Array Value} {r : Bool} (h : ∀ W, (Op.equalIn Op.maxDepth t (.agg a) (.agg b)).run P W = .ok r W) (W : World) : (binOp .neq t (.agg a) (.agg b)).run P W = .ok (.bool !r) W := by
  simp [binOp, Op.equal, h W]
end Go.Proofs.YtmlncblocfcmiaaGreat
namespace Go.Proofs.YtmlncblocfcmiaaGreat
open Go.RowKit
variable {dd : Bool}
def cT (k : IntKind) (x : Int) : List Value := [.int k x]
def su (x : ByteArray) : List Value := [.string x]
theorem vC (k : IntKind) (x : Int) : ∀ u ∈ cT k x, u.oneCell' = true := by intro u hu; simp [cT] at hu; subst hu; rfl
theorem Ey (x : ByteArray) : ∀ u ∈ su x, u.oneCell' = true := by intro u hu; simp [su] at hu; subst hu; rfl
def zS : ByteArray := ⟨#[]⟩
def uK (a b : ByteArray) : Bool := Op.bytesLess a.toList b.toList
@[irreducible] def bR : Nat := 18446744073709551616
theorem rI : bR = 18446744073709551616 := by unfold bR; rfl
def dS {α : Type} (l : List α) (i : Int) : Option α := if 0 ≤ i then l[i.toNat]? else none
theorem bM {α : Type} {l : List α} {i : Int} {x : α} (h : dS l i = some x) : 0 ≤ i := by
  unfold dS at h; split at h
  · assumption
  · cases h
theorem bJ {α : Type} {l : List α} {i : Int} {x : α} (h : dS l i = some x) : l[i.toNat]? = some x := by
  unfold dS at h; split at h
  · exact h
  · cases h
theorem un {α : Type} (l : List α) (i : Nat) : dS l (i : Int) = l[i]? := by simp [dS]
def vn (s : ByteArray) (i : Int) : Option UInt8 := if 0 ≤ i then s[i.toNat]? else none
theorem zB {s : ByteArray} {i : Int} {x : UInt8} (h : vn s i = some x) : 0 ≤ i := by
  unfold vn at h; split at h
  · assumption
  · cases h
theorem CT {s : ByteArray} {i : Int} {x : UInt8} (h : vn s i = some x) : s[i.toNat]? = some x := by
  unfold vn at h; split at h
  · exact h
  · cases h
section
variable {F : Nat → Prop} {w W : World} {μ : aY} {L L' : List (Nat × Obj)} {α : Type} {e : TypeId} {enc : α → List Value} {k : Nat} {v : Value} {l : List α} {R : List (Nat × Obj)}
theorem ST.at_ (h : ST dd F w W μ L) {b : Nat} {o : Obj} (hb : (b, o) ∈ L) : hp W b = some o := (h.box b o hb).1
theorem bE.form (h : bE e enc k v l R) : ∃ A c, v = .slice A l.length c := by
  rcases h with ⟨rfl, rfl, rfl⟩ | ⟨g, cap, cur, rfl, rfl, h1, h2, h3, h4⟩
  · exact ⟨_, _, rfl⟩
  · exact ⟨_, _, rfl⟩
theorem Sl.form {R : iX α} (h : Sl R k μ v l) : ∃ A c, v = .slice A l.length c := let ⟨A, c, h, _⟩ := h; ⟨A, c, h⟩
theorem Sl.lit {b m : Nat} {cs : Array Value} (hk : ∀ x, (enc x).length = k) (hm : l.length = m) (hM : m ≤ maxLen) (hc : cs.toList = (l.map enc).flatten) (hb : μ b = some (.cells cs e (0, 0))) : Sl (Pl enc) k μ (.slice (some ⟨b, 0, none⟩) m m) l :=
  (bE.lit (e := e) (b := b) hm hM hc (by have := congrArg List.length hc; rw [iZ hk, Array.length_toList, hm] at this; exact this)).sl hk (fun b' o h => by simp at h; obtain ⟨rfl, rfl⟩ := h; exact hb)
theorem Fr.box (h : ST dd dW w W μ L) {b m c : Nat} {o : Obj} (hb : (b, o) ∈ L) : Fr w.heap.size (.slice (some ⟨b, 0, none⟩) m c) := by
  intro b' hb'
  simp [Value.ownBlock] at hb'
  subst hb'
  rcases (h.box b o hb).2.2 with h | h
  · exact h
  · exact h.elim
theorem ST.perm (h : ST dd F w W μ L) (hp : L.Perm L') : ST dd F w W μ L' :=
  ⟨h.os, h.tape, h.output, h.drawn, h.size, h.old, h.mem, fun b o hb => h.box b o (hp.mem_iff.2 hb), (hp.map _).nodup_iff.1 h.nd⟩
theorem ST.sublist (h : ST dd F w W μ L) (hs : L'.Sublist L) : ST dd F w W μ L' :=
  ⟨h.os, h.tape, h.output, h.drawn, h.size, h.old, h.mem, fun b o hb => h.box b o (hs.subset hb), h.nd.sublist (hs.map _)⟩
end
section
variable {E : Nat → Value} {x1 x2 x3 x4 x5 x6 : Operand} {v1 v2 v3 v4 v5 v6 : Value}
theorem lQ (h1 : aR E x1 = v1) : #[x1].map (aR E) ++ (#[] : Array Value) = [v1].toArray := by simp [h1]
theorem no (h1 : aR E x1 = v1) (h2 : aR E x2 = v2) : #[x1, x2].map (aR E) ++ (#[] : Array Value) = [v1, v2].toArray := by simp [h1, h2]
end
theorem xv : ∀ (v : List Value) (i off : Nat) (cells : Array Value), off + i + v.length ≤ cells.size →
    (v.zipIdx i).foldl (fun cs (c, j) => cs.setIfInBounds (off + j) c) cells = (cells.toList.take (off + i) ++ v ++ cells.toList.drop (off + i + v.length)).toArray
  | [], i, off, cells, h => by simp
  | c :: v, i, off, cells, h => by
    simp only [List.zipIdx_cons, List.foldl_cons]
    simp only [List.length_cons] at h
    rw [xv v (i + 1) off _ (by simp; omega)]
    have hlt : off + i < cells.toList.length := by simp; omega
    congr 1
    rw [Array.toList_setIfInBounds]
    apply List.ext_getElem?
    intro j
    have hs : (cells.toList.take (off + i)).length = off + i := by simp; omega
    by_cases h1 : j < off + i
    · simp only [List.getElem?_append, List.length_append, List.length_take, List.length_set, Array.length_toList, List.length_cons, List.getElem?_take, List.getElem?_set, List.getElem?_drop]
      rw [show min (off + (i + 1)) cells.size = off + (i + 1) by omega, show min (off + i) cells.size = off + i by omega]
      rw [if_pos (by omega), if_pos (by omega), if_pos (by omega), if_neg (by omega), if_pos (by omega), if_pos (by omega), if_pos (by omega)]
    · by_cases h2 : j = off + i
      · subst h2
        simp [List.getElem?_append, List.getElem?_take, List.getElem?_set, show off + i < off + (i + 1) by omega]
        rw [if_pos (by omega), if_pos (by omega), if_neg (by omega), show off + i - min (off + i) cells.size = 0 by omega]
        rfl
      · simp only [List.getElem?_append, List.length_append, List.length_take, List.length_set, Array.length_toList, List.length_cons, List.getElem?_take, List.getElem?_set, List.getElem?_drop]
        rw [show min (off + (i + 1)) cells.size = off + (i + 1) by omega, show min (off + i) cells.size = off + i by omega]
        by_cases h3 : j < off + (i + 1) + v.length
        · rw [if_pos h3, if_neg (by omega), if_pos (by omega), if_neg (by omega)]
          rw [show j - (off + i) = (j - (off + (i + 1))) + 1 by omega]
          simp
        · rw [if_neg h3, if_neg (by omega), if_neg (by omega)]
          congr 1
          omega
theorem xX {k : Nat} : ∀ (vs : List Value) (i : Nat) (pre rest : List Value), (∀ v ∈ vs, v.cells.size = k) → pre.length = i * k → rest.length = vs.length * k →
    Instr.fill (fun i => some (i * k, k)) (pre ++ rest).toArray ((vs.zipIdx i).map (fun p => (p.2, p.1))) = some (pre ++ vs.flatMap (fun v => v.cells.toList)).toArray
  | [], i, pre, rest, hv, hp, hr => by
    have : rest = [] := by cases rest <;> simp at hr ⊢
    simp [Instr.fill, this]
  | v :: vs, i, pre, rest, hv, hp, hr => by
    have hvk := hv v (by simp)
    have hz : v.cells.zipIdx.foldl (fun cs (c, j) => cs.setIfInBounds (i * k + j) c) (pre ++ rest).toArray = (pre ++ v.cells.toList ++ rest.drop k).toArray := by
      have := xv v.cells.toList 0 (i * k) (pre ++ rest).toArray (by simp [hp, hr, hvk, Nat.add_mul])
      rw [← Array.toList_zipIdx, Array.foldl_toList] at this
      rw [this]
      congr 1
      simp [← hp, hvk]
    simp only [List.zipIdx_cons, List.map_cons, Instr.fill]
    rw [if_neg (by simp [hvk, hp, hr, Nat.add_mul]), hz]
    have := xX vs (i + 1) (pre ++ v.cells.toList) (rest.drop k) (fun u hu => hv u (by simp [hu])) (by simp [hp, hvk, Nat.add_mul]) (by simp [hr, Nat.add_mul])
    rw [this]
    simp
theorem CR {k m : Nat} {cs0 cs : Array Value} {qs : Array (Nat × Value)} (vs : List Value) (hq : qs.toList = vs.zipIdx.map (fun p => (p.2, p.1))) (hv : ∀ v ∈ vs, v.cells.size = k) (hm : vs.length = m) (hs : cs0.size = m * k)
    (hc : (vs.flatMap (fun v => v.cells.toList)).toArray = cs) : Instr.fill (fun i => some (i * k, k)) cs0 qs.toList = some cs := by
  subst hm hc
  rw [hq]
  have := xX vs 0 [] cs0.toList hv (by simp) (by simpa using hs)
  simpa using this
theorem eF {P : Program} {t e : TypeId} {m k : Nat} {z : Value} {qs : Array (Nat × Value)} {cs : Array Value} (vs : List Value) (ht : P.underlying t = some (.slice e)) (hs : ∀ w, (sizeOf e).run P w = .ok k w) (hz : ∀ w, (zeroValue e).run P w = .ok z w)
    (hm : m * k ≤ 16777216) (hq : qs.toList = vs.zipIdx.map (fun p => (p.2, p.1))) (hv : ∀ v ∈ vs, v.cells.size = k) (hl : vs.length = m) (hc : (vs.flatMap (fun v => v.cells.toList)).toArray = cs) (W : World) :
    (Instr.buildSlice t m qs).run P W = .ok (.slice (some ⟨W.heap.size, 0, none⟩) m m) (W.alloc (.cells cs e (0, 0))) :=
  wK ht hs hz hm (CR vs hq hv hl (by simp) hc) W
theorem lT {E : Nat → Value}  : (#[] : Array (Nat × Operand)).map (fun (i, x) => (i, aR E x)) = #[] := by simp
theorem fH {E : Nat → Value} {x0 : Operand} {v0 : Value} {i0 : Nat} (h0 : aR E x0 = v0) : (#[(i0, x0)] : Array (Nat × Operand)).map (fun (i, x) => (i, aR E x)) = #[(i0, v0)] := by simp [h0]
theorem iK {E : Nat → Value} {x0 x1 : Operand} {v0 v1 : Value} {i0 i1 : Nat} (h0 : aR E x0 = v0) (h1 : aR E x1 = v1) : (#[(i0, x0), (i1, x1)] : Array (Nat × Operand)).map (fun (i, x) => (i, aR E x)) = #[(i0, v0), (i1, v1)] := by simp [h0, h1]
theorem vP {E : Nat → Value} {x0 x1 x2 : Operand} {v0 v1 v2 : Value} {i0 i1 i2 : Nat} (h0 : aR E x0 = v0) (h1 : aR E x1 = v1) (h2 : aR E x2 = v2) : (#[(i0, x0), (i1, x1), (i2, x2)] : Array (Nat × Operand)).map (fun (i, x) => (i, aR E x)) = #[(i0, v0), (i1, v1), (i2, v2)] := by simp [h0, h1, h2]
theorem cJ {P : Program} {t : TypeId} {f off : Nat} {fs : Array Field} {fd : Field} (ht : P.underlying t = some (.struct fs)) (hf : fs[f]? = some fd) {k : Nat} (hs : ∀ w, (sizeOf fd.type).run P w = .ok k w) (hk : k ≠ 0) (ho : fd.offset = off) : dH P t f off := by
  intro b o w
  subst ho
  simp [Instr.fieldAt, run_underlying ht, hf, Instr.sureAddr, fieldPlace, Addr.add_lit, hs w, hk]
theorem Fz {P : Program} {n : Nat} {Q : kA} {E : Nat → Value} {W : World} {ops : Array Oper} {rest : List Oper} {A : Value → Prop} {o : Oper} {dd : Nat} (hw : kJ n ops E o) (hd : o.dst = some dd) (hn : dd < n)
    (hr : ∃ p, A p ∧ ∀ W, dT P E o W p W) (h : ∀ p, A p → LW P n ops Q rest (jZ E dd p) W) : LW P n ops Q (o :: rest) E W := by
  obtain ⟨p, h1, h2⟩ := hr
  exact wX hw hd hn (h2 W) (h p h1)
end Go.Proofs.YtmlncblocfcmiaaGreat
namespace Go.Proofs.YtmlncblocfcmiaaGreat
open Go.RowKit
variable {dd : Bool}
theorem mF {P : Program} {n : Nat} {x : Code} {Q : kA} {E : Nat → Value} {W : World} (h : CW P n x (pp (fun E W => Q .normal E W) Q) E W) : CW P n x Q E W :=
  wR h (fun e E W h => by cases e <;> exact h)
section
variable {P : Program} {n : Nat} {Q : kA} {E : Nat → Value} {W : World} {d : Option Nat} {ty : TypeId} {pos : String} {af : Array Edge} {g : Option (Nat × Bool)}
  {F : Nat → Prop} {w : World} {μ : aY} {L : List (Nat × Obj)}
def Dj (k : IntKind) (op : BinOp) (a b : Int) : Option Value :=
  match op with
  | .quo => some (.int k (k.wrap (a.tdiv b)))
  | .rem => some (.int k (a.tmod b))
  | .and => some (.int k (k.wrap (BitVec.ofInt k.bits a &&& BitVec.ofInt k.bits b).toNat))
  | .or => some (.int k (k.wrap (BitVec.ofInt k.bits a ||| BitVec.ofInt k.bits b).toNat))
  | _ => none
theorem Dd {op : BinOp} {tx tv : TypeId} {x y : Operand} {k : IntKind} {a b : Int} {v : Value} (hx : aR E x = .int k a) (hy : aR E y = .int k b) (h0 : b ≠ 0) (hv : Dj k op a b = some v) :
    dT P E ⟨d, .binOp op tx x y tv, ty, pos, af, g⟩ W v W := by
  show (do let r ← (do eqGuard op tx x y (aR E x) (aR E y); binOp op tx (aR E x) (aR E y)); pure (.value r) : Sem Next).run P W = _
  rw [hx, hy]
  cases op <;> simp [Dj] at hv <;> subst hv <;> simp [eqGuard, binOp, Op.intDiv, Op.intBits, h0]
theorem vH {tx tv : TypeId} {x y : Operand} {k k' : IntKind} {a b : Int} (hx : aR E x = .int k a) (hy : aR E y = .int k' b) (h0 : 0 ≤ b) :
    dT P E ⟨d, .binOp .shr tx x y tv, ty, pos, af, g⟩ W (.int k (a.fdiv (2 ^ min b.toNat k.bits))) W := by
  show (do let r ← (do eqGuard .shr tx x y (aR E x) (aR E y); binOp .shr tx (aR E x) (aR E y)); pure (.value r) : Sem Next).run P W = _
  rw [hx, hy]
  simp [eqGuard, binOp, Op.shift, show ¬ b < 0 by omega]
theorem kU {s t : TypeId} {x : Operand} {k k' : IntKind} {a : Int} {u : TypeDesc} (hs : P.underlying s = some u) (ht : P.underlying t = some (.int k)) (hx : aR E x = .int k' a) :
    dT P E ⟨d, .convert s t x, ty, pos, af, g⟩ W (.int k (k.wrap a)) W := by
  show (do pure (.value (← convert s t (aR E x))) : Sem Next).run P W = _
  rw [hx]
  simp [convert, run_underlying hs, run_underlying ht, Conv.intToInt]
theorem wS {t e : TypeId} (dd : Nat) (ht : P.underlying t = some (.slice e)) (A : Option Addr) (l c : Nat) (W : World) : (Op.equalIn (dd + 1) t (.slice A l c) (.slice none 0 0)).run P W = .ok A.isNone W := by
  cases A <;> simp [Op.equalIn, run_underlying ht]
theorem pI {tx tv e : TypeId} {x y : Operand} {A : Option Addr} {l c : Nat} (ht : P.underlying tx = some (.slice e)) (hx : aR E x = .slice A l c) (hy : aR E y = .slice none 0 0) :
    dT P E ⟨d, .binOp .eql tx x y tv, ty, pos, af, g⟩ W (.bool A.isNone) W := by
  show (do let r ← (do eqGuard .eql tx x y (aR E x) (aR E y); binOp .eql tx (aR E x) (aR E y)); pure (.value r) : Sem Next).run P W = _
  rw [hx, hy]
  have h0 := wS 9999 ht A l c W
  simp [eqGuard, binOp, Op.equal, show Op.maxDepth = 9999 + 1 from rfl, h0]
def lr (s : ByteArray) : List Int := s.data.toList.map (fun b => (b.toNat : Int))
def ru (s : ByteArray) : Option (List Int) := if s.size ≤ maxLen then some (lr s) else none
theorem jg (s : ByteArray) : (lr s).length = s.size := by simp only [lr, List.length_map, Array.length_toList]; rfl
theorem Au {s : ByteArray} {cap i : Nat} {x : Int} (h : (lr s)[i]? = some x) : (bytesRow s cap)[i]? = some (.int .u8 x) := by
  have hi : i < s.size := by have := (List.getElem?_eq_some_iff.1 h).1; rwa [jg] at this
  have hi' : i < s.data.size := hi
  simp [lr] at h
  obtain ⟨b, hb, rfl⟩ := h
  rw [bytesRow, Array.getElem?_append_left (by simpa using hi')]
  simp [hb]
theorem xy {K : Value → World → Prop} {s t e : TypeId} {x : Operand} {str : ByteArray} {l : List Int} (hST : ST dd F w W μ L) (hs : P.underlying s = some .string) (hd : P.underlying t = some (.slice e)) (he : P.underlying e = some (.int .u8)) (hx : aR E x = .string str) (hb : ru str = some l)
    (h : ∀ W' v μ', ST dd F w W' μ' L → aW μ μ' → Lo F w μ μ' → Sl (Pl (cT .u8)) 1 μ' v l → Fr w.heap.size v → K v W') : fY P E ⟨d, .convert s t x, ty, pos, af, g⟩ W K := by
  unfold ru at hb
  split at hb
  case isFalse => cases hb
  rename_i hm
  cases hb
  have hrun := run_bytes_of_string (P := P) W s t e str hs hd he
  have h1 := hST.drew.alloc (.cells (bytesRow str (grownCap W str.size 0 e)) e ((bytesRow str (grownCap W str.size 0 e)).size, (bytesRow str (grownCap W str.size 0 e)).size + 1))
  refine .inl ⟨.slice (some ⟨W.heap.size, 0, none⟩) str.size (grownCap W str.size 0 e), _, ?_, h _ _ _ (ST.publish (A := []) h1) (ST.pub_sub (A := []) h1) (ST.lo_pub (A := []) h1) ?_ ?_⟩
  · show (do pure (.value (← convert s t (aR E x))) : Sem Next).run P W = _
    rw [hx]
    simp only [Sem.run_bind, hrun, Result.andThen_ok, Sem.run_pure]
  · refine ⟨_, grownCap W str.size 0 e, by rw [jg], by rw [jg]; exact grownCap_ge W str.size 0 e, grownCap_le_maxLen W str.size 0 e hm, fun _ => ⟨W.heap.size, 0, bytesRow str (grownCap W str.size 0 e), e, _, rfl, if_pos rfl, fun i x hx => ⟨_, rfl, rfl, fun j y hy => ?_⟩⟩⟩
    cases j with
    | zero => simp [cT] at hy; subst hy; simpa using Au hx
    | succ j => simp [cT] at hy
  · intro b hb
    simp [Value.ownBlock] at hb
    subst hb
    exact hST.size
end
end Go.Proofs.YtmlncblocfcmiaaGreat
namespace Go.Proofs.YtmlncblocfcmiaaGreat
open Go.RowKit
variable {dd : Bool}
def keys (L : List (Nat × Obj)) : Nat → Prop := fun b => ∃ o, (b, o) ∈ L
structure FJ (dd : Bool) (F : Nat → Prop) (w W : World) : Prop where
  os : W.os = w.os
  tape : W.tape = w.tape
  output : W.output = w.output
  drawn : lF dd w.drawn W.drawn
  size : w.heap.size ≤ W.heap.size
  old : ∀ b, b < w.heap.size → ¬ F b → W.heap[b]? = w.heap[b]?
def tF (L : List (Nat × Obj)) (W : World) : Prop := ∀ b o, (b, o) ∈ L → W.heap[b]? = some o
structure mN (dd : Bool) (L0 L1 : List (Nat × Obj)) (w w' : World) : Prop where
  ex : FJ dd (keys L0) w w'
  held : ∀ b o, (b, o) ∈ L1 → w'.heap[b]? = some o ∧ (w.heap.size ≤ b ∨ keys L0 b)
  nd : (L1.map (·.1)).Nodup
open Classical in
noncomputable def mW (w : World) (L : List (Nat × Obj)) : aY := fun b => if keys L b then none else w.heap[b]?
open Classical in
noncomputable def qJ (μ : aY) (W W' : World) (L1 : List (Nat × Obj)) : aY := fun b => if b < W.heap.size then μ b else if keys L1 b then none else W'.heap[b]?
section
variable {F : Nat → Prop} {w W W' : World} {μ μ' : aY} {L L0 L1 : List (Nat × Obj)}
theorem ST.startM (hh : tF L0 w) (hn : (L0.map (·.1)).Nodup) : ST dd (keys L0) w w (mW w L0) L0 :=
  ⟨rfl, rfl, rfl, lF.of (Nat.le_refl _), Nat.le_refl _, fun _ _ _ => rfl, fun b o h => by
    unfold mW at h; split at h
    · cases h
    · exact h, fun b o h => ⟨hh b o h, by unfold mW; rw [if_pos ⟨o, h⟩], .inr ⟨o, h⟩⟩, hn⟩
theorem uq {A B : List (Nat × Obj)} (h : ((A ++ B).map (·.1)).Nodup) {b : Nat} {o : Obj} (hb : (b, o) ∈ B) : ¬ keys A b := by
  rintro ⟨o', ho⟩
  rw [List.map_append] at h
  exact (List.nodup_append.1 h).2.2 b (List.mem_map.2 ⟨_, ho, rfl⟩) b (List.mem_map.2 ⟨_, hb, rfl⟩) rfl
theorem ST.back (h : ST dd F w W μ (L0 ++ L)) (hb : mN dd L0 L1 W W') : ST dd F w W' (qJ μ W W' L1) (L1 ++ L) := by
  have hk : ∀ b, keys L0 b → b < W.heap.size ∧ μ b = none ∧ (w.heap.size ≤ b ∨ F b) := fun b ⟨o, ho⟩ => by
    obtain ⟨h1, h2, h3⟩ := h.box b o (List.mem_append_left _ ho)
    exact ⟨gF h1, h2, h3⟩
  refine ⟨hb.ex.os.trans h.os, hb.ex.tape.trans h.tape, hb.ex.output.trans h.output, lF.trans h.drawn hb.ex.drawn, Nat.le_trans h.size hb.ex.size, fun b hlt hF => ?_, fun b o ho => ?_, fun b o ho => ?_, ?_⟩
  · rw [hb.ex.old b (Nat.lt_of_lt_of_le hlt h.size) (fun hkb => by
      rcases (hk b hkb).2.2 with h | h
      · omega
      · exact hF h)]
    exact h.old b hlt hF
  · unfold qJ at ho
    split at ho
    · rename_i hlt
      rw [hb.ex.old b hlt (fun hkb => by rw [(hk b hkb).2.1] at ho; cases ho)]
      exact h.mem b o ho
    · split at ho
      · cases ho
      · exact ho
  · rcases List.mem_append.1 ho with ho | ho
    · obtain ⟨h1, h2⟩ := hb.held b o ho
      refine ⟨h1, ?_, ?_⟩
      · unfold qJ
        split
        · rename_i hlt
          rcases h2 with h2 | h2
          · omega
          · exact (hk b h2).2.1
        · rw [if_pos ⟨o, ho⟩]
      · rcases h2 with h2 | h2
        · exact .inl (Nat.le_trans h.size h2)
        · exact (hk b h2).2.2
    · obtain ⟨h1, h2, h3⟩ := h.box b o (List.mem_append_right _ ho)
      refine ⟨?_, ?_, h3⟩
      · rw [hb.ex.old b (gF h1) (uq h.nd ho)]; exact h1
      · unfold qJ; rw [if_pos (gF h1)]; exact h2
  · rw [List.map_append]
    have hL : (L.map (·.1)).Nodup := by have := h.nd; rw [List.map_append] at this; exact (List.nodup_append.1 this).2.1
    refine List.nodup_append.2 ⟨hb.nd, hL, fun a ha c hc e => ?_⟩
    subst e
    obtain ⟨⟨b, o⟩, ho, rfl⟩ := List.mem_map.1 ha
    obtain ⟨⟨b', o'⟩, ho', e⟩ := List.mem_map.1 hc
    simp at e; subst e
    have hlt := h.box_lt (List.mem_append_right _ ho')
    rcases (hb.held b' o ho).2 with h2 | h2
    · omega
    · exact uq h.nd ho' h2
theorem ST.lo_growX (h : ST dd F w W μ L) (W' : World) (L1 : List (Nat × Obj)) : Lo F w μ (qJ μ W W' L1) := fun b hb _ => if_pos (Nat.lt_of_lt_of_le hb h.size)
theorem ST.growX_sub (h : ST dd F w W μ L) (W' : World) (L1 : List (Nat × Obj)) : aW μ (qJ μ W W' L1) := fun b o hb => by
  unfold qJ; rw [if_pos (h.mu_lt hb)]; exact hb
theorem ST.sub_hpx (h : ST dd F w W μ L) (hL : ∀ p, p ∈ L0 → p ∈ L) : aW μ (mW W L0) := fun b o hb => by
  unfold mW
  rw [if_neg]
  · exact h.mem b o hb
  · rintro ⟨o', ho⟩
    rw [(h.box b o' (hL _ ho)).2.1] at hb
    cases hb
theorem mN.of_ex (h : Ex dd w W) (hh : ∀ b o, (b, o) ∈ L1 → W.heap[b]? = some o ∧ w.heap.size ≤ b) (hn : (L1.map (·.1)).Nodup) : mN dd [] L1 w W :=
  ⟨⟨h.os, h.tape, h.output, h.drawn, h.size, fun b hb _ => h.old b hb⟩, fun b o hb => ⟨(hh b o hb).1, .inl (hh b o hb).2⟩, hn⟩
end
def dJ (dd : Bool) (P : Program) (f : FuncId) (args : List Value) (w : World) (L0 : List (Nat × Obj)) (K : Value → List (Nat × Obj) → World → Prop) : Prop :=
  Calls P f args.toArray w fun e w' => ∃ v L1, e = .returned v ∧ mN dd L0 L1 w w' ∧ K v L1 w'
def fD (dd : Bool) {α : Type} (P : Program) (f : FuncId) (args : List Value) (w : World) (e : TypeId) (enc : α → List Value) (k : Nat) (l : List α) : Prop :=
  dJ dd P f args w [] fun v R _ => bE e enc k v l R
theorem mN.weak {L0 L1 : List (Nat × Obj)} {w w' : World} (h : mN true L0 L1 w w') : mN dd L0 L1 w w' := ⟨⟨h.ex.os, h.ex.tape, h.ex.output, lF.of (h.ex.drawn rfl), h.ex.size, h.ex.old⟩, h.held, h.nd⟩
theorem bW.weak {P : Program} {f : FuncId} {args : List Value} {w : World} {v : Value} (h : bW true P f args w v) : bW dd P f args w v := Calls.mono h fun _ _ h => ⟨h.1, h.2.weak⟩
theorem dJ.weak {P : Program} {f : FuncId} {args : List Value} {w : World} {L0 : List (Nat × Obj)} {K : Value → List (Nat × Obj) → World → Prop} (h : dJ true P f args w L0 K) : dJ dd P f args w L0 K := Calls.mono h fun _ _ ⟨v, L1, h1, h2, h3⟩ => ⟨v, L1, h1, h2.weak, h3⟩
theorem fD.weak {α : Type} {P : Program} {f : FuncId} {args : List Value} {w : World} {e : TypeId} {enc : α → List Value} {k : Nat} {l : List α} (h : fD true P f args w e enc k l) : fD dd P f args w e enc k l := dJ.weak h
section
variable {P : Program} {E : Nat → Value} {W : World} {d : Option Nat} {ty : TypeId} {pos : String} {af : Array Edge} {g : Option (Nat × Bool)}
  {F : Nat → Prop} {w : World} {μ : aY} {L : List (Nat × Obj)}
theorem B3 {K : Value → World → Prop} {K' : Value → List (Nat × Obj) → World → Prop} {f : FuncId} {fv : Operand} {ax : Array Operand} {ats : Array TypeId} {caps : Array Value} {args : List Value} (L0 L2 : List (Nat × Obj)) (hST : ST dd F w W μ L) (hL : L.Perm (L0 ++ L2))
    (hf : aR E fv = .func (.func f) #[] caps) (he : ∀ args w, (callFunc f args).run P w = .ok (.enter f args) w) (ha : ax.map (aR E) ++ caps = args.toArray) (hc : dJ dd P f args W L0 K')
    (h : ∀ W' v μ' L1, ST dd F w W' μ' (L1 ++ L2) → aW μ μ' → Lo F w μ μ' → K' v L1 W' → K v W') : fY P E ⟨d, .call ⟨.value fv, ax, ats⟩, ty, pos, af, g⟩ W K :=
  uk hf he ha (Calls.mono hc (fun _ W' ⟨v, L1, h1, h2, h3⟩ => ⟨v, h1, h W' v _ L1 ((hST.perm hL).back h2) ((hST.perm hL).growX_sub W' L1) ((hST.perm hL).lo_growX W' L1) h3⟩))
theorem AT {K : Value → World → Prop} {α : Type} {e : TypeId} {enc : α → List Value} {k : Nat} {l : List α} {f : FuncId} {fv : Operand} {ax : Array Operand} {ats : Array TypeId} {caps : Array Value} {args : List Value} (X Y : List (Nat × Obj)) (hST : ST dd F w W μ (X ++ Y))
    (hf : aR E fv = .func (.func f) #[] caps) (he : ∀ args w, (callFunc f args).run P w = .ok (.enter f args) w) (ha : ax.map (aR E) ++ caps = args.toArray) (hc : fD dd P f args W e enc k l)
    (h : ∀ W' v μ' R, ST dd F w W' μ' (X ++ (R ++ Y)) → aW μ μ' → Lo F w μ μ' → bE e enc k v l R → K v W') : fY P E ⟨d, .call ⟨.value fv, ax, ats⟩, ty, pos, af, g⟩ W K :=
  B3 [] (X ++ Y) hST (.refl _) hf he ha hc (fun W' v μ' L1 h1 h2 h4 h3 => h W' v μ' L1 (h1.perm (by rw [← List.append_assoc, ← List.append_assoc]; exact List.perm_append_comm.append_right Y)) h2 h4 h3)
end
theorem ST.backRow {w W : World} {μ : aY} {L R : List (Nat × Obj)} (h : ST dd dW w W μ L) (hR : ∀ p, p ∈ R → p ∈ L) (hn : (R.map (·.1)).Nodup) : mN dd [] R w W :=
  mN.of_ex h.ex (fun b o hb => ⟨(h.box b o (hR _ hb)).1, by
    rcases (h.box b o (hR _ hb)).2.2 with h | h
    · exact h
    · exact h.elim⟩) hn
theorem eP {P : Program} {E : Nat → Value} {W : World} {d : Option Nat} {ty : TypeId} {pos : String} {af : Array Edge} {g : Option (Nat × Bool)} {α : Type} {e' : TypeId} {enc : α → List Value} {k : Nat} {v : Value} {l : List α} {R : List (Nat × Obj)} {x : Operand} {t e : TypeId} (ht : P.underlying t = some (.slice e)) (hx : aR E x = v) (h : bE e' enc k v l R) : dT P E ⟨d, .call ⟨.builtin .len, #[x], #[t]⟩, ty, pos, af, g⟩ W (.int .i64 l.length) W := by
  obtain ⟨A, c, rfl⟩ := h.form
  exact qg ht hx
section
variable {α : Type} {e : TypeId} {enc : α → List Value} {k : Nat} {v : Value} {l : List α} {R : List (Nat × Obj)}
theorem bE.nd (h : bE e enc k v l R) : (R.map (·.1)).Nodup := by
  rcases h with ⟨rfl, rfl, rfl⟩ | ⟨g, cap, cur, rfl, rfl, _⟩ <;> simp
end
end Go.Proofs.YtmlncblocfcmiaaGreat
namespace Go.Proofs.YtmlncblocfcmiaaGreat
open Go.RowKit
variable {dd : Bool}
def pR (R : List (Nat × Obj)) (k : Nat) (p : Value) (i : Nat) : Prop := ∃ g o, R = [(g, o)] ∧ p = .pointer (some ⟨g, i * k, none⟩)
section
variable {P : Program} {E : Nat → Value} {W : World} {d : Option Nat} {ty : TypeId} {pos : String} {af : Array Edge} {g : Option (Nat × Bool)}
  {F : Nat → Prop} {w : World} {μ : aY} {L : List (Nat × Obj)} {α : Type} {e' : TypeId} {enc : α → List Value} {k : Nat} {v : Value} {l : List α} {R : List (Nat × Obj)}
theorem jh {t e : TypeId} {x ix : Operand} {ik : IntKind} {i : Int} {x0 : α}
    (ht : P.underlying t = some (.slice e)) (he : ∀ w, (sizeOf e).run P w = .ok k w) (hx : aR E x = v) (hi : aR E ix = .int ik i) (h : bE e' enc k v l R) (h0 : 0 ≤ i) (hl : l[i.toNat]? = some x0) :
    ∃ p, pR R k p i.toNat ∧ ∀ W, dT P E ⟨d, .indexAddr t x ix, ty, pos, af, g⟩ W p W := by
  have hlt : i.toNat < l.length := (List.getElem?_eq_some_iff.1 hl).1
  rcases h with ⟨rfl, rfl, rfl⟩ | ⟨g', cap, cur, rfl, rfl, h1, h2, h3, h4⟩
  · simp at hlt
  refine ⟨.pointer (some ⟨g', i.toNat * k, none⟩), ⟨_, _, rfl, rfl⟩, fun W => ?_⟩
  show (do pure (.value (← Instr.indexAt t (aR E x) (aR E ix))) : Sem Next).run P W = _
  rw [hx, hi]
  have hb : 0 ≤ i ∧ i < (l.length : Int) := ⟨h0, by omega⟩
  simp [Instr.indexAt, asIntOf, run_underlying ht, he W, hb, Addr.add_lit]
theorem qp (h : bE e' enc k v l R) (hk : ∀ x, (enc x).length = k) {p : Value} {i : Nat} (hp : pR R k p i) {x0 : α} (hl : l[i]? = some x0) :
    ∃ g cur cap, R = [(g, .cells cur e' (0, 0))] ∧ v = .slice (some ⟨g, 0, none⟩) l.length cap ∧ l.length ≤ cap ∧ cap ≤ maxLen ∧ cur.size = cap * k ∧ cur.toList.take (l.length * k) = (l.map enc).flatten ∧ p = .pointer (some ⟨g, i * k, none⟩) ∧ ∀ j y, (enc x0)[j]? = some y → cur[i * k + j]? = some y := by
  have hlt : i < l.length := (List.getElem?_eq_some_iff.1 hl).1
  rcases h with ⟨rfl, rfl, rfl⟩ | ⟨g', cap, cur, rfl, rfl, h1, h2, h3, h4⟩
  · simp at hlt
  obtain ⟨g2, o, e1, rfl⟩ := hp
  cases e1
  refine ⟨g', cur, cap, rfl, rfl, h1, h2, h3, h4, rfl, fun j y hy => ?_⟩
  have := nC hk l i x0 hl j y hy
  rw [← h4] at this
  have hlt2 : i * k + j < l.length * k := by
    have := (List.getElem?_eq_some_iff.1 this).1
    simp at this; omega
  rw [List.getElem?_take_of_lt hlt2] at this
  simpa using this
theorem mc {A : List (Nat × Obj)} (hH : gD μ A W) (hA : ∀ q, q ∈ R → q ∈ A) (h : bE e' enc k v l R) (hk : ∀ x, (enc x).length = k) {p : Value} {i : Nat} (hp : pR R k p i) {x0 : α} (hl : l[i]? = some x0) {t : TypeId}
    (hG : ∀ w, (isAgg t).run P w = .ok true w) (hS : ∀ w, (sizeOf t).run P w = .ok k w) : (Instr.loadAt t p).run P W = .ok (.agg (enc x0).toArray) W := by
  obtain ⟨g', cur, cap, rfl, rfl, _, _, _, _, rfl, h5⟩ := qp h hk hp hl
  exact qZ hG (enc x0) (by rw [hk]; exact hS) (hH.2 _ _ (hA _ (List.mem_singleton.2 rfl))) h5
theorem yP {A : List (Nat × Obj)} (hH : gD μ A W) (hA : ∀ q, q ∈ R → q ∈ A) (h : bE e' enc k v l R) (hk : ∀ x, (enc x).length = k) {p : Value} {i : Nat} (hp : pR R k p i) {x0 : α} (hl : l[i]? = some x0) {t : TypeId} {y : Value} (hy : enc x0 = [y])
    (hG : ∀ w, (isAgg t).run P w = .ok false w) : (Instr.loadAt t p).run P W = .ok y W := by
  obtain ⟨g', cur, cap, rfl, rfl, _, _, _, _, rfl, h5⟩ := qp h hk hp hl
  exact rq hG (hH.2 _ _ (hA _ (List.mem_singleton.2 rfl))) (h5 0 y (by rw [hy]; rfl))
theorem vv (hk : ∀ x, (enc x).length = k) : ∀ (l : List α) (i : Nat) (y : α), i < l.length → ((l.set i y).map enc).flatten = (l.map enc).flatten.take (i * k) ++ enc y ++ (l.map enc).flatten.drop (i * k + k)
  | [], i, y, h => by simp at h
  | z :: l, 0, y, h => by
    simp [hk]
  | z :: l, i + 1, y, h => by
    have := vv hk l i y (by simpa using h)
    simp only [List.set_cons_succ, List.map_cons, List.flatten_cons, this]
    have h1 : (i + 1) * k = (enc z).length + i * k := by rw [hk, Nat.add_mul]; omega
    rw [h1, List.take_length_add_append, Nat.add_assoc, List.drop_length_add_append]
    simp
theorem AY {K : Value → World → Prop} (X : List (Nat × Obj)) {Y : List (Nat × Obj)} {t : TypeId} {x y : Operand} {p u : Value} {i : Nat} {x0 x1 : α} (hST : ST dd F w W μ (X ++ (R ++ Y))) (h : bE e' enc k v l R) (hk : ∀ x, (enc x).length = k) (h1 : ∀ x, ∀ u ∈ enc x, u.oneCell' = true)
    (hx : aR E x = p) (hy : aR E y = u) (hu : u.cells = (enc x1).toArray) (hp : pR R k p i) (hl : l[i]? = some x0) (hS : ∀ w, (sizeOf t).run P w = .ok k w)
    (hK : ∀ W' R', ST dd F w W' μ (X ++ (R' ++ Y)) → bE e' enc k v (l.set i x1) R' → K undef W') : fY P E ⟨d, .store t x y, ty, pos, af, g⟩ W K := by
  have hlt : i < l.length := (List.getElem?_eq_some_iff.1 hl).1
  obtain ⟨g', cur, cap, rfl, rfl, h2, h3, h4, h5, rfl, h6⟩ := qp h hk hp hl
  have hle : i * k + k ≤ cap * k := by
    have : (i + 1) * k ≤ cap * k := Nat.mul_le_mul_right _ (by omega)
    rwa [Nat.add_mul, Nat.one_mul] at this
  have hle2 : i * k + k ≤ l.length * k := by
    have : (i + 1) * k ≤ l.length * k := Nat.mul_le_mul_right _ (by omega)
    rwa [Nat.add_mul, Nat.one_mul] at this
  have hcl : u.cells.size = k := by rw [hu]; simp [hk]
  have hb := (hST.box g' (.cells cur e' (0, 0)) (by simp)).1
  have hlen : l.length * k ≤ cap * k := Nat.mul_le_mul_right _ h2
  refine .inr (.inl ⟨W.setRow g' (cur.toList.take (i * k) ++ (enc x1) ++ cur.toList.drop (i * k + k)).toArray, ?_, hK _ [(g', .cells (cur.toList.take (i * k) ++ (enc x1) ++ cur.toList.drop (i * k + k)).toArray e' (0, 0))] (hST.store _) (.inr ⟨g', cap, _, by simp, rfl, by simpa using h2, h3, ?_, ?_⟩)⟩)
  · show (do Instr.storeAt t (aR E x) (aR E y); pure .skip : Sem Next).run P W = _
    rw [hx, hy]
    have := pe P (off := i * k) u (by rw [hcl]; exact hS) (by rw [hu]; simpa using h1 x1) hb (by rw [hcl, h4]; exact hle)
    simp only [Sem.run_bind, this, Result.andThen_ok, Sem.run_pure, hcl]
    rw [hu]
  · show ((cur.toList.take (i * k) ++ (enc x1) ++ cur.toList.drop (i * k + k)).toArray).size = _
    have e0 : cur.toList.length = cap * k := by simpa using h4
    rw [List.size_toArray, List.length_append, List.length_append, List.length_take, List.length_drop, hk, e0, Nat.min_eq_left (by omega)]; omega
  · rw [List.length_set, vv hk l i x1 hlt, ← h5]
    have e1 : (cur.toList.take (l.length * k)).take (i * k) = cur.toList.take (i * k) := by rw [List.take_take]; congr 1; omega
    have e2 : (cur.toList.take (l.length * k)).drop (i * k + k) = (cur.toList.drop (i * k + k)).take (l.length * k - (i * k + k)) := by rw [List.drop_take]
    rw [e1, e2]
    show List.take (l.length * k) (cur.toList.take (i * k) ++ enc x1 ++ cur.toList.drop (i * k + k)) = _
    have e0 : cur.toList.length = cap * k := by simpa using h4
    have e3 : (cur.toList.take (i * k) ++ enc x1).length = i * k + k := by rw [List.length_append, List.length_take, hk, e0, Nat.min_eq_left (by omega)]
    rw [List.take_append, List.take_of_length_le (by rw [e3]; exact hle2), e3]
theorem ug (hk : ∀ x, (enc x).length = k) : ∀ (l : List α) (i : Nat), i ≤ l.length → ((l.take i).map enc).flatten = (l.map enc).flatten.take (i * k)
  | [], i, h => by simp
  | z :: l, 0, h => by simp
  | z :: l, i + 1, h => by
    have := ug hk l i (by simpa using h)
    simp only [List.take_succ_cons, List.map_cons, List.flatten_cons, this]
    rw [show (i + 1) * k = (enc z).length + i * k by rw [hk, Nat.add_mul]; omega, List.take_length_add_append]
theorem tw {t e : TypeId} {x ih : Operand} {ik : IntKind} {i : Int} (ht : P.underlying t = some (.slice e)) (he : ∀ w, (sizeOf e).run P w = .ok k w) (hx : aR E x = v) (hi : aR E ih = .int ik i) (h : bE e' enc k v l R) (hk : ∀ x, (enc x).length = k) (h0 : 0 ≤ i) (hl : i ≤ l.length) :
    ∃ v', bE e' enc k v' (l.take i.toNat) R ∧ ∀ W, dT P E ⟨d, .slice t x none (some ih) none, ty, pos, af, g⟩ W v' W := by
  have hlt : i.toNat ≤ l.length := by omega
  rcases h with ⟨rfl, rfl, rfl⟩ | ⟨g', cap, cur, rfl, rfl, h1, h2, h3, h4⟩
  · have : i = 0 := by simp at hl; omega
    subst this
    refine ⟨.slice none 0 0, .inl ⟨rfl, by simp, rfl⟩, fun W => ?_⟩
    show (do pure (.value (← Instr.sliceAt t (aR E x) none (some (aR E ih)) none)) : Sem Next).run P W = _
    rw [hx, hi]
    simp [Instr.sliceAt, Instr.slice, Instr.sliceBounds, Instr.sliceBound, asIntOf, run_underlying ht, he W]
  · refine ⟨.slice (some ⟨g', 0, none⟩) (l.take i.toNat).length cap, .inr ⟨g', cap, cur, rfl, rfl, by simp; omega, h2, h3, ?_⟩, fun W => ?_⟩
    · have e0 : (l.take i.toNat).length = i.toNat := by rw [List.length_take]; omega
      have hle : i.toNat * k ≤ l.length * k := Nat.mul_le_mul_right _ hlt
      rw [e0, ug hk l i.toNat hlt, ← h4, List.take_take, Nat.min_eq_left hle]
    · show (do pure (.value (← Instr.sliceAt t (aR E x) none (some (aR E ih)) none)) : Sem Next).run P W = _
      rw [hx, hi]
      have hb : 0 ≤ i ∧ i ≤ (cap : Int) := ⟨h0, by omega⟩
      simp [Instr.sliceAt, Instr.slice, Instr.sliceBounds, Instr.sliceBound, asIntOf, run_underlying ht, he W, hb, Addr.add_lit]
      omega
theorem uR {Rp : iX α} {t e : TypeId} {x il : Operand} {ik : IntKind} {i : Int} (ht : P.underlying t = some (.slice e)) (he : ∀ w, (sizeOf e).run P w = .ok k w) (hx : aR E x = v) (hi : aR E il = .int ik i) (h : Sl Rp k μ v l) (h0 : 0 ≤ i) (hl : i ≤ l.length) :
    ∃ v', (Sl Rp k μ v' (l.drop i.toNat) ∧ ∀ B, Fr B v → Fr B v') ∧ ∀ W, dT P E ⟨d, .slice t x (some il) none none, ty, pos, af, g⟩ W v' W := by
  obtain ⟨A, c, rfl, h2, h3, h4⟩ := h
  have hlt : i.toNat ≤ l.length := by omega
  refine ⟨.slice (if c = i.toNat then A else A.map (·.add (i.toNat * k))) (l.drop i.toNat).length (c - i.toNat), ⟨⟨_, _, rfl, by simp; omega, by omega, fun hp => ?_⟩, fun B hF b hb => ?_⟩, fun W => ?_⟩
  · have hp' : i.toNat < l.length := by simp at hp; omega
    obtain ⟨b, off, cs, T, fr, rfl, h6, h7⟩ := h4 (by omega)
    refine ⟨b, off + i.toNat * k, cs, T, fr, ?_, h6, fun j x hx => ?_⟩
    · rw [if_neg (by omega)]; simp [Addr.add_lit]
    · rw [List.getElem?_drop] at hx
      obtain ⟨ys, h8, h9, h10⟩ := h7 _ x hx
      refine ⟨ys, h8, h9, fun q y hy => ?_⟩
      have := h10 q y hy
      rw [Nat.add_mul] at this
      rw [show off + i.toNat * k + j * k + q = off + (i.toNat * k + j * k) + q by omega]
      exact this
  · refine hF b ?_
    cases A with
    | none => simp [Value.ownBlock] at hb
    | some a =>
      split at hb
      · exact hb
      · obtain ⟨b', o', s'⟩ := a
        cases s' <;> simp [Value.ownBlock, Addr.add] at hb ⊢ <;> split at hb <;> exact hb
  · show (do pure (.value (← Instr.sliceAt t (aR E x) (some (aR E il)) none none)) : Sem Next).run P W = _
    rw [hx, hi]
    have hb : 0 ≤ i ∧ i ≤ (l.length : Int) := ⟨h0, hl⟩
    simp [Instr.sliceAt, Instr.slice, Instr.sliceBounds, Instr.sliceBound, asIntOf, run_underlying ht, he W, hb]
end
end Go.Proofs.YtmlncblocfcmiaaGreat
namespace Go.Proofs.YtmlncblocfcmiaaGreat
open Go.RowKit
variable {dd : Bool}
section
variable {α : Type} {e : TypeId} {enc : α → List Value} {k : Nat} {v : Value} {l : List α} {R : List (Nat × Obj)} {μ : aY}
theorem bE.one (h : bE e enc k v l R) : v.oneCell' = true := by obtain ⟨A, c, rfl⟩ := h.form; rfl
theorem Sl.one {Rp : iX α} (h : Sl Rp k μ v l) : v.oneCell' = true := by obtain ⟨A, c, rfl⟩ := h.form; rfl
theorem Sl.isNil {Rp : iX α} {n c : Nat} (h : Sl Rp k μ (.slice none n c) l) : l = [] := by
  obtain ⟨A, c', h1, h2, h3, h4⟩ := h
  cases h1
  rcases Nat.eq_zero_or_pos l.length with h0 | h0
  · exact List.length_eq_zero_iff.1 h0
  · obtain ⟨b, off, cs, T, fr, h5, _⟩ := h4 h0
    cases h5
theorem bE.isNil {n c : Nat} (h : bE e enc k (.slice none n c) l R) : l = [] := by
  rcases h with ⟨h1, rfl, rfl⟩ | ⟨g, cap, cur, h1, _⟩
  · rfl
  · cases h1
theorem ST.backL {w W : World} {μ : aY} {L1 L2 : List (Nat × Obj)} (h : ST dd dW w W μ (L1 ++ L2)) : mN dd [] L1 w W :=
  mN.of_ex h.ex (fun b o hb => ⟨(h.box b o (List.mem_append_left _ hb)).1, by
    rcases (h.box b o (List.mem_append_left _ hb)).2.2 with h | h
    · exact h
    · exact h.elim⟩) (by have := h.nd; rw [List.map_append] at this; exact (List.nodup_append.1 this).1)
theorem ST.backM {w W : World} {μ : aY} {L0 L1 L2 : List (Nat × Obj)} (h : ST dd (keys L0) w W μ (L1 ++ L2)) : mN dd L0 L1 w W :=
  ⟨⟨h.os, h.tape, h.output, h.drawn, h.size, h.old⟩, fun b o hb => ⟨(h.box b o (List.mem_append_left _ hb)).1, (h.box b o (List.mem_append_left _ hb)).2.2⟩, by have := h.nd; rw [List.map_append] at this; exact (List.nodup_append.1 this).1⟩
end
end Go.Proofs.YtmlncblocfcmiaaGreat
namespace Go.Proofs.YtmlncblocfcmiaaGreat
open Go.RowKit
variable {dd : Bool}
def cG {κ β : Type} (beq : κ → κ → Bool) (l : List (κ × β)) (k : κ) : Option β := (l.find? (fun p => beq k p.1)).map (·.2)
def gG {κ β : Type} (beq : κ → κ → Bool) (l : List (κ × β)) (k : κ) (v : β) : List (κ × β) :=
  match l.findIdx? (fun p => beq k p.1) with
  | some i => l.set i (k, v)
  | none => l ++ [(k, v)]
structure mi {κ β : Type} (kenc : κ → Value) (vf : β → Value) (l : List (κ × β)) (es : Array MapEntry) (clock : Nat) : Prop where
  pairs : es.toList.map (fun e => (e.key, e.val)) = l.map (fun p => (kenc p.1, vf p.2))
  born : es.toList.Pairwise (fun a b => a.born < b.born)
  lt : ∀ e ∈ es.toList, e.born < clock
def dK {κ β : Type} (kenc : κ → Value) (vf : β → Value) (v : Value) (l : List (κ × β)) (R : List (Nat × Obj)) : Prop :=
  ∃ m es clock, v = .map (some m) ∧ R = [(m, .map es clock)] ∧ mi kenc vf l es clock
def nn {κ β : Type} (kenc : κ → Value) (vf : β → Value) (μ : aY) (v : Value) (l : List (κ × β)) : Prop :=
  (v = .map none ∧ l = []) ∨ ∃ m es clock, v = .map (some m) ∧ μ m = some (.map es clock) ∧ mi kenc vf l es clock
theorem nn.mono {κ β : Type} {kenc : κ → Value} {vf : β → Value} {μ μ' : aY} {v : Value} {l : List (κ × β)} (h : nn kenc vf μ v l) (hs : aW μ μ') : nn kenc vf μ' v l := by
  rcases h with h | ⟨m, es, clock, h1, h2, h3⟩
  · exact .inl h
  · exact .inr ⟨m, es, clock, h1, hs _ _ h2, h3⟩
theorem dK.at {κ β : Type} {kenc : κ → Value} {vf : β → Value} {μ : aY} {v : Value} {l : List (κ × β)} {R : List (Nat × Obj)} (h : dK kenc vf v l R) (hR : ∀ b o, (b, o) ∈ R → μ b = some o) : nn kenc vf μ v l := by
  obtain ⟨m, es, clock, rfl, rfl, h3⟩ := h
  exact .inr ⟨m, es, clock, rfl, hR _ _ (List.mem_singleton.2 rfl), h3⟩
structure iM {κ : Type} (P : Program) (kt : TypeId) (kenc : κ → Value) (beq : κ → κ → Bool) : Prop where
  check : ∀ b k W, (Instr.checkKey b 10000 kt (kenc k)).run P W = .ok () W
  find : ∀ (k : κ) (l : List κ) (es : List MapEntry), es.map (·.key) = l.map kenc → ∀ W, (Instr.findKey kt (kenc k) es).run P W = .ok ((l.findIdx? (fun x => beq k x)).bind fun i => (es[i]?).map fun e => (i, e.val)) W
  eq : ∀ k x, beq k x = true → kenc x = kenc k
  bits : ∀ k, Instr.sameBits 10000 (kenc k) (kenc k) = true
section
variable {P : Program} {W : World} {κ : Type} {kt : TypeId} {kenc : κ → Value} {beq : κ → κ → Bool}
theorem rG (hq : ∀ x y W, (Op.equal kt (kenc x) (kenc y)).run P W = .ok (beq x y) W) (k : κ) : ∀ (l : List κ) (es : List MapEntry) (i : Nat), es.map (·.key) = l.map kenc →
    (Instr.findAsking kt (kenc k) es i).run P W = .ok ((l.findIdx? (fun x => beq k x)).bind fun j => (es[j]?).map fun e => (i + j, e.val)) W
  | [], [], i, h => by simp [Instr.findAsking]
  | [], _ :: _, i, h => by simp at h
  | _ :: _, [], i, h => by simp at h
  | x :: l, e :: es, i, h => by
    simp only [List.map_cons, List.cons.injEq] at h
    obtain ⟨h1, h2⟩ := h
    simp only [Instr.findAsking, Sem.run_bind, h1, hq, Result.andThen_ok, List.findIdx?_cons]
    cases hb : beq k x with
    | true => simp
    | false =>
      simp only [Bool.false_eq_true, if_false]
      rw [rG hq k l es (i + 1) h2]
      cases l.findIdx? (fun x => beq k x) with
      | none => rfl
      | some j => simp [Nat.add_assoc, Nat.add_comm 1 j]
theorem zq {kind : TypeDesc} (hk : ∀ a b, Instr.sameNow kind (.agg a) b = none) (a : Array Value) : ∀ (es : List MapEntry) (i : Nat), Instr.findNow kind (.agg a) es i = if es = [] then some none else none
  | [], i => by simp [Instr.findNow]
  | e :: es, i => by simp [Instr.findNow, hk]
theorem iM.struct {enc : κ → List Value} {fs : Array Field} (ht : P.underlying kt = some (.struct fs)) (hq : ∀ d x y W, (Op.equalIn (d + 10) kt (.agg (enc x).toArray) (.agg (enc y).toArray)).run P W = .ok (beq x y) W)
    (hc : ∀ b k W, (Instr.checkKey b 10000 kt (.agg (enc k).toArray)).run P W = .ok () W) (he : ∀ k x, beq k x = true → x = k) (hb : ∀ k, Instr.sameBits 10000 (.agg (enc k).toArray) (.agg (enc k).toArray) = true) : iM P kt (fun x => .agg (enc x).toArray) beq where
  check := hc
  find := fun k l es h W => by
    have hq' : ∀ x y W, (Op.equal kt (.agg (enc x).toArray) (.agg (enc y).toArray)).run P W = .ok (beq x y) W := fun x y W => hq 9990 x y W
    simp only [Instr.findKey, Sem.run_bind, run_underlying ht, Result.andThen_ok]
    rw [zq (fun a b => by cases b <;> rfl)]
    by_cases h0 : es = []
    · subst h0
      have : l = [] := by simpa using h.symm
      subst this
      simp
    · rw [if_neg h0]
      dsimp only
      rw [show Instr.findAsking kt (.agg (enc k).toArray) es = Instr.findAsking kt (.agg (enc k).toArray) es 0 from rfl, rG hq' k l es 0 h]
      simp
  eq := fun k x h => by rw [he k x h]
  bits := hb
theorem fT {a b : ByteArray} : eT a b = true ↔ a = b := by
  unfold eT
  rw [ByteArray.toList_eq, ByteArray.toList_eq]
  constructor
  · intro h
    have h1 : a.data.toList = b.data.toList := by simpa using h
    exact ByteArray.ext (Array.toList_inj.1 h1)
  · rintro rfl
    simp
theorem tV (a b : ByteArray) : (a == b) = eT a b := by
  rw [Bool.eq_iff_iff, fT]
  constructor
  · intro h
    have h1 : (a.data == b.data) = true := h
    exact ByteArray.ext (by simpa using h1)
  · rintro rfl
    show (a.data == a.data) = true
    simp
theorem rO (k : ByteArray) : ∀ (l : List ByteArray) (es : List MapEntry) (i : Nat), es.map (·.key) = l.map Value.string →
    Instr.findNow .string (.string k) es i = some ((l.findIdx? (fun x => eT k x)).bind fun j => (es[j]?).map fun e => (i + j, e.val))
  | [], [], i, h => by simp [Instr.findNow]
  | [], _ :: _, i, h => by simp at h
  | _ :: _, [], i, h => by simp at h
  | x :: l, e :: es, i, h => by
    simp only [List.map_cons, List.cons.injEq] at h
    obtain ⟨h1, h2⟩ := h
    simp only [Instr.findNow, h1, Instr.sameNow, tV, List.findIdx?_cons]
    cases hb : eT k x with
    | true => simp
    | false =>
      simp only [Bool.false_eq_true, if_false]
      rw [rO k l es (i + 1) h2]
      cases l.findIdx? (fun x => eT k x) with
      | none => rfl
      | some j => simp [Nat.add_assoc, Nat.add_comm 1 j]
theorem oM (ht : P.underlying kt = some .string) (n : Nat) (b : Bool) (k : ByteArray) (W : World) : (Instr.checkKey b (n + 1) kt (.string k)).run P W = .ok () W := by
  simp [Instr.checkKey, run_underlying ht]
theorem iM.string (ht : P.underlying kt = some .string) : iM P kt Value.string eT where
  check := fun b k W => oM ht 9999 b k W
  find := fun k l es h W => by
    simp only [Instr.findKey, Sem.run_bind, run_underlying ht, Result.andThen_ok]
    have := rO k l es 0 h
    rw [this]
    simp
  eq := fun k x h => by rw [fT.1 h]
  bits := fun k => by simp only [Instr.sameBits]; rw [tV]; exact fT.2 rfl
variable {β : Type} {vf : β → Value} {E : Nat → Value} {d : Option Nat} {ty : TypeId} {pos : String} {af : Array Edge} {g : Option (Nat × Bool)} {F : Nat → Prop} {w : World} {μ : aY} {L : List (Nat × Obj)}
theorem mi.keys {l : List (κ × β)} {es : Array MapEntry} {clock : Nat} (h : mi kenc vf l es clock) : es.toList.map (·.key) = (l.map (·.1)).map kenc := by
  have := congrArg (List.map Prod.fst) h.pairs
  simpa [Function.comp_def] using this
theorem mi.length {l : List (κ × β)} {es : Array MapEntry} {clock : Nat} (h : mi kenc vf l es clock) : es.size = l.length := by
  have := congrArg List.length h.pairs
  simpa using this
theorem mi.get {l : List (κ × β)} {es : Array MapEntry} {clock : Nat} (h : mi kenc vf l es clock) (k : κ) :
    (((l.map (·.1)).findIdx? (fun x => beq k x)).bind fun i => (es.toList[i]?).map fun e => (i, e.val)) = (l.findIdx? (fun p => beq k p.1)).bind fun i => (l[i]?).map fun p => (i, vf p.2) := by
  rw [List.findIdx?_map]
  show ((l.findIdx? (fun p => beq k p.1)).bind _) = _
  congr 1
  funext i
  have := congrArg (fun q => q[i]?) h.pairs
  simp only [List.getElem?_map] at this
  cases h1 : es.toList[i]? with
  | none => rw [h1] at this; cases h2 : l[i]? with
    | none => rfl
    | some p => rw [h2] at this; cases this
  | some e => rw [h1] at this; cases h2 : l[i]? with
    | none => rw [h2] at this; cases this
    | some p => rw [h2] at this; simp at this; simp [this.2]
theorem om (l : List (κ × β)) (k : κ) : cG beq l k = (l.findIdx? (fun p => beq k p.1)).bind fun i => (l[i]?).map (·.2) := by
  induction l with
  | nil => rfl
  | cons p l ih =>
    simp only [cG, List.find?_cons, List.findIdx?_cons] at ih ⊢
    cases beq k p.1 with
    | true => rfl
    | false =>
      simp only [Bool.false_eq_true, if_false]
      rw [ih]
      cases l.findIdx? (fun p => beq k p.1) <;> simp
theorem yu {t e : TypeId} {m x : Operand} {mv z : Value} {l : List (κ × β)} {k : κ} (K : iM P kt kenc beq) (ht : P.underlying t = some (.map kt e)) (hz : ∀ w, (zeroValue e).run P w = .ok z w) (hm : aR E m = mv) (hx : aR E x = kenc k) (hM : nn kenc vf (hp W) mv l) :
    dT P E ⟨d, .lookup t m x false, ty, pos, af, g⟩ W (((cG beq l k).map vf).getD z) W := by
  show (do pure (.value (← Instr.lookup t (aR E m) (aR E x) false)) : Sem Next).run P W = _
  rw [hm, hx]
  rcases hM with ⟨rfl, rfl⟩ | ⟨mb, es, clock, rfl, hb, h3⟩
  · have := K.find k [] [] rfl W
    simp [Instr.lookup, run_underlying ht, K.check, this, hz W, cG]
  · have hb' : W.heap[mb]? = some (.map es clock) := hb
    have h5 : ((getObj mb : Sem Obj)).run P W = .ok (.map es clock) W := by simp [getObj, Sem.run, hb']
    have h6 := K.find k _ _ h3.keys W
    rw [h3.get k] at h6
    simp only [Instr.lookup, Sem.run_bind, run_underlying ht, Result.andThen_ok, h5, Sem.run_pure, K.check, h6, om]
    cases h7 : l.findIdx? (fun p => beq k p.1) with
    | none => simp [hz W]
    | some i =>
      cases h8 : l[i]? with
      | none => simp [h8, hz W]
      | some p => simp [h8]
theorem kr {l : List (κ × β)} {k : κ} {i : Nat} (h : l.findIdx? (fun p => beq k p.1) = some i) : ∃ p, l[i]? = some p ∧ beq k p.1 = true := by
  rw [List.findIdx?_eq_some_iff_getElem] at h
  obtain ⟨h1, h2, _⟩ := h
  exact ⟨l[i], List.getElem?_eq_getElem h1, h2⟩
theorem mi.put {l : List (κ × β)} {es : Array MapEntry} {clock : Nat} (h : mi kenc vf l es clock) (k : κ) (v : β) :
    match l.findIdx? (fun p => beq k p.1) with
    | some i => mi kenc vf (l.set i (k, v)) (es.modify i fun e => { e with key := kenc k, val := vf v }) clock
    | none => mi kenc vf (l ++ [(k, v)]) (es.push { key := kenc k, val := vf v, born := clock }) (clock + 1) := by
  cases h7 : l.findIdx? (fun p => beq k p.1) with
  | none =>
    refine ⟨?_, ?_, ?_⟩
    · simp [h.pairs]
    · simp only [Array.toList_push, List.pairwise_append]
      exact ⟨h.born, by simp, fun a ha b hb => by simp at hb; subst hb; exact h.lt a ha⟩
    · intro e he
      simp at he
      rcases he with he | rfl
      · exact Nat.lt_succ_of_lt (h.lt e (by simpa using he))
      · exact Nat.lt_succ_self _
  | some i =>
    obtain ⟨p, hp, _⟩ := kr h7
    have hi : i < l.length := (List.getElem?_eq_some_iff.1 hp).1
    have hborn : (es.modify i fun e => { e with key := kenc k, val := vf v }).toList.map (·.born) = es.toList.map (·.born) := by
      apply List.ext_getElem?
      intro j
      simp only [List.getElem?_map, Array.getElem?_toList, Array.getElem?_modify]
      split
      · cases es[j]? <;> simp
      · rfl
    refine ⟨?_, ?_, ?_⟩
    · apply List.ext_getElem?
      intro j
      have hj := congrArg (fun q => q[j]?) h.pairs
      simp only [List.getElem?_map, Array.getElem?_toList] at hj
      simp only [List.getElem?_map, Array.getElem?_toList, Array.getElem?_modify, List.getElem?_set]
      by_cases hij : i = j
      · subst hij
        simp only [if_true]
        rw [if_pos hi]
        cases h8 : es[i]? with
        | none => rw [h8, hp] at hj; cases hj
        | some e => rfl
      · rw [if_neg hij, if_neg hij]; exact hj
    · have := h.born
      rw [← List.pairwise_map (f := fun e : MapEntry => e.born) (R := (· < ·))] at this ⊢
      rw [hborn]; exact this
    · intro e he
      have : e.born ∈ es.toList.map (·.born) := by rw [← hborn]; exact List.mem_map.2 ⟨e, he, rfl⟩
      obtain ⟨e', he', h9⟩ := List.mem_map.1 this
      rw [← h9]; exact h.lt e' he'
theorem oU {W : World} {r : Nat} {es : Array MapEntry} {c : Nat} (hr : W.heap[r]? = some (.map es c)) (o' : Obj) : (setObj r o').run P W = .ok () (ChangeMaps.setBlock W r o') := by
  simp [setObj, Sem.run, hr, ChangeMaps.setBlock]
theorem ST.setBlock {A B : List (Nat × Obj)} {b : Nat} {o : Obj} (h : ST dd F w W μ (A ++ (b, o) :: B)) (o' : Obj) : ST dd F w (ChangeMaps.setBlock W b o') μ (A ++ (b, o') :: B) := by
  have hb := (h.box b o (by simp)).1
  have hlt := gF hb
  refine h.put ⟨rfl, rfl, rfl, Nat.le_refl _, by simp [ChangeMaps.setBlock]⟩ (fun k hk => ?_) ?_
  · simp only [ChangeMaps.setBlock]
    rw [Array.getElem?_setIfInBounds_ne (fun e => hk e.symm)]
  · simp only [ChangeMaps.setBlock]
    rw [Array.getElem?_setIfInBounds_self_of_lt hlt]
theorem rn {Kk : Value → World → Prop} (X : List (Nat × Obj)) {Y R : List (Nat × Obj)} {t e : TypeId} {m x y : Operand} {mv : Value} {l : List (κ × β)} {k : κ} {v : β} (K : iM P kt kenc beq) (ht : P.underlying t = some (.map kt e)) (hST : ST dd F w W μ (X ++ (R ++ Y))) (h : dK kenc vf mv l R)
    (hm : aR E m = mv) (hx : aR E x = kenc k) (hy : aR E y = vf v) (hK : ∀ W' R', ST dd F w W' μ (X ++ (R' ++ Y)) → dK kenc vf mv (gG beq l k v) R' → Kk undef W') : fY P E ⟨d, .mapUpdate t m x y, ty, pos, af, g⟩ W Kk := by
  obtain ⟨mb, es, clock, rfl, rfl, h3⟩ := h
  have hb : W.heap[mb]? = some (.map es clock) := (hST.box mb (.map es clock) (by simp)).1
  have h5 : ((getObj mb : Sem Obj)).run P W = .ok (.map es clock) W := by simp [getObj, Sem.run, hb]
  have h6 := K.find k _ _ h3.keys W
  rw [h3.get k] at h6
  have hput := h3.put (beq := beq) k v
  have hrun : ∀ W', (Instr.mapUpdate t (.map (some mb)) (kenc k) (vf v)).run P W = .ok () W' → (execOp (aR E) ⟨d, .mapUpdate t m x y, ty, pos, af, g⟩).run P W = .ok .skip W' := by
    intro W' hr
    show (do Instr.mapUpdate t (aR E m) (aR E x) (aR E y); pure .skip : Sem Next).run P W = _
    rw [hm, hx, hy]
    simp [hr]
  cases h7 : l.findIdx? (fun p => beq k p.1) with
  | none =>
    rw [h7] at h6 hput
    refine .inr (.inl ⟨ChangeMaps.setBlock W mb (.map (es.push { key := kenc k, val := vf v, born := clock }) (clock + 1)), hrun _ ?_, hK _ [(mb, _)] (hST.setBlock _) ⟨mb, _, _, rfl, rfl, ?_⟩⟩)
    · simp [Instr.mapUpdate, run_underlying ht, h5, K.check, h6, oU hb]
    · rw [gG, h7]; exact hput
  | some i =>
    obtain ⟨p, hp, hbq⟩ := kr h7
    rw [h7] at h6 hput
    simp only [Option.bind_some, hp, Option.map_some] at h6
    have hkey : ((es[i]?).map (·.key)).getD (kenc k) = kenc k := by
      have := congrArg (fun q => q[i]?) h3.keys
      simp only [List.getElem?_map, hp, Option.map_some, Array.getElem?_toList] at this
      rw [this]
      simp [K.eq k p.1 hbq]
    refine .inr (.inl ⟨ChangeMaps.setBlock W mb (.map (es.modify i fun e => { e with key := kenc k, val := vf v }) clock), hrun _ ?_, hK _ [(mb, _)] (hST.setBlock _) ⟨mb, _, _, rfl, rfl, ?_⟩⟩)
    · simp only [Instr.mapUpdate, Sem.run_bind, run_underlying ht, h5, K.check, h6, Result.andThen_ok, hkey, Instr.keyThatStays, K.bits, if_true, Sem.run_pure]
      exact oU hb _
    · rw [gG, h7]; exact hput
theorem xw {Kk : Value → World → Prop} {t : TypeId} (kenc : κ → Value) (vf : β → Value) (hST : ST dd F w W μ L) (hK : ∀ W' v R, ST dd F w W' μ (R ++ L) → dK kenc vf v [] R → Kk v W') : fY P E ⟨d, .makeMap t none, ty, pos, af, g⟩ W Kk :=
  .inl ⟨.map (some W.heap.size), W.alloc (.map #[] 0), by
      show (do pure (.value (← Instr.makeMap t none)) : Sem Next).run P W = _
      simp [Instr.makeMap, newObj, Sem.run], hK _ _ [(W.heap.size, .map #[] 0)] (hST.alloc _) ⟨_, _, _, rfl, rfl, ⟨rfl, by simp, by simp⟩⟩⟩
end
end Go.Proofs.YtmlncblocfcmiaaGreat
namespace Go.Proofs.YtmlncblocfcmiaaGreat
open Go.RowKit
variable {dd : Bool}
def Fl {α β : Type} (P : Program) (fv : Value) (μ : aY) (av : α → List Value) (rv : β → Value) (pm : α → Option β) : Prop :=
  ∃ f caps, fv = .func (.func f) #[] caps ∧ (∀ args w, (callFunc f args).run P w = .ok (.enter f args) w) ∧ ∀ W x r, aW μ (hp W) → pm x = some r → bW true P f (av x ++ caps.toList) W (rv r)
def pQ {α β : Type} (P : Program) (fv : Value) (μ : aY) (av : α → List Value) (rv : β → Value) (pm : α → Option β) : Prop :=
  ∃ f first caps, fv = .func (.func f) first caps ∧ (∀ args w, (callFunc f args).run P w = .ok (.enter f args) w) ∧ ∀ W x r, aW μ (hp W) → pm x = some r → bW false P f (first.toList ++ (av x ++ caps.toList)) W (rv r)
theorem pQ.form {α β : Type} {P : Program} {fv : Value} {μ : aY} {av : α → List Value} {rv : β → Value} {pm : α → Option β} (h : pQ P fv μ av rv pm) : ∃ f a b, fv = .func f a b := let ⟨f, a, b, h, _⟩ := h; ⟨_, a, b, h⟩
section
variable {P : Program} {W : World} {E : Nat → Value} {d : Option Nat} {ty : TypeId} {pos : String} {af : Array Edge} {g : Option (Nat × Bool)} {F : Nat → Prop} {w : World} {μ μ0 : aY} {L : List (Nat × Obj)}
theorem pQ.mono {α β : Type} {fv : Value} {av : α → List Value} {rv : β → Value} {pm : α → Option β} (h : pQ P fv μ av rv pm) (hs : aW μ μ0) : pQ P fv μ0 av rv pm := by
  obtain ⟨f, first, caps, h1, h2, h3⟩ := h
  exact ⟨f, first, caps, h1, h2, fun W x r h => h3 W x r (hs.trans h)⟩
theorem CA {α β : Type} {K : Value → World → Prop} {fv : Value} {av : α → List Value} {rv : β → Value} {pm : α → Option β} {fo : Operand} {ax : Array Operand} {ats : Array TypeId} (x : α) {r : β} (hST : ST false F w W μ L) (hc : pQ P fv μ0 av rv pm) (hs : aW μ0 μ)
    (hf : aR E fo = fv) (ha : ax.map (aR E) ++ (#[] : Array Value) = (av x).toArray) (hm : pm x = some r) (h : ∀ W', ST false F w W' μ L → K (rv r) W') : fY P E ⟨d, .call ⟨.value fo, ax, ats⟩, ty, pos, af, g⟩ W K := by
  obtain ⟨f, first, caps, rfl, h2, h3⟩ := hc
  have ha' : ax.map (aR E) = (av x).toArray := by simpa using ha
  refine .inr (.inr ⟨f, (first.toList ++ (av x ++ caps.toList)).toArray, ?_, Calls.mono (h3 W x r (hs.trans hST.sub_hp) hm) (fun _ _ ⟨h4, h5⟩ => ⟨_, h4, h _ (hST.call0 h5)⟩)⟩)
  show (do let d ← resolve (aR E) ⟨.value fo, ax, ats⟩ ty; invoke d.target d.args : Sem Next).run P W = _
  simp only [resolve, hf, Deferred.ofValue, Sem.run_bind, Sem.run_pure, Result.andThen_ok, invoke, ha', h2]
  congr 2
  simp
end
end Go.Proofs.YtmlncblocfcmiaaGreat
namespace Go.Proofs.YtmlncblocfcmiaaGreat
open Go.RowKit
variable {dd : Bool}
def pM (A : List (Nat × Obj)) : aY := fun b => (A.find? (fun p => p.1 == b)).map (·.2)
theorem dZ {A : List (Nat × Obj)} {W : World} (h : ∀ b o, (b, o) ∈ A → W.heap[b]? = some o) : ∀ b o, pM A b = some o → W.heap[b]? = some o := fun b o hb => by
  unfold pM at hb
  cases hf : A.find? (fun p => p.1 == b) with
  | none => rw [hf] at hb; cases hb
  | some p =>
    rw [hf] at hb
    cases hb
    have h1 := List.mem_of_find?_eq_some hf
    have h2 := List.find?_some hf
    simp at h2
    subst h2
    exact h _ _ h1
theorem At.of {M : aY} {b : Nat} {cs : Array Value} {T : TypeId} {fr : Nat × Nat} (h : M b = some (.cells cs T fr)) (ys : List Value) (hy : cs.toList = ys) : At M (.pointer (some ⟨b, 0, none⟩)) ys :=
  ⟨b, 0, cs, T, fr, rfl, h, fun j y hj => by subst hy; simpa using hj⟩
section
variable {F : Nat → Prop} {w W W' : World} {μ μ' : aY} {L L0 L1 L2 : List (Nat × Obj)}
theorem ST.hpx_mem (h : ST dd F w W μ L) (hL : L.Perm (L0 ++ L2)) : ∀ b o, (b, o) ∈ L2 → mW W L0 b = some o := fun b o hb => by
  have h1 := (h.perm hL).at_ (List.mem_append_right _ hb)
  unfold mW
  rw [if_neg (uq (h.perm hL).nd hb)]
  exact h1
theorem ST.held (h : ST dd F w W μ L) (hL : L.Perm (L0 ++ L2)) : tF L0 W := fun b o hb => ((h.perm hL).box b o (List.mem_append_left _ hb)).1
theorem ST.ndup (h : ST dd F w W μ L) (hL : L.Perm (L0 ++ L2)) : (L0.map (·.1)).Nodup := by
  have := (h.perm hL).nd
  rw [List.map_append] at this
  exact (List.nodup_append.1 this).1
theorem ST.subx (h : ST dd F w W μ L) (hL : L.Perm (L0 ++ L2)) : aW μ (mW W L0) := (h.perm hL).sub_hpx (fun _ hp => List.mem_append_left _ hp)
end
section
variable {P : Program} {E : Nat → Value} {W : World} {d : Option Nat} {ty : TypeId} {pos : String} {af : Array Edge} {g : Option (Nat × Bool)}
  {F : Nat → Prop} {w : World} {μ : aY} {L : List (Nat × Obj)}
theorem Dz {K : Value → World → Prop} {K' : Value → List (Nat × Obj) → World → Prop} {f : FuncId} {fv : Operand} {ax : Array Operand} {ats : Array TypeId} {caps : Array Value} {args : List Value} (L0 L2 : List (Nat × Obj)) (hST : ST dd F w W μ L) (hL : L.Perm (L0 ++ L2))
    (hf : aR E fv = .func (.func f) #[] caps) (he : ∀ args w, (callFunc f args).run P w = .ok (.enter f args) w) (ha : ax.map (aR E) ++ (#[] : Array Value) = args.toArray)
    (hc : tF L0 W → (L0.map (·.1)).Nodup → aW μ (mW W L0) → (∀ b o, (b, o) ∈ L2 → mW W L0 b = some o) → dJ dd P f (args ++ caps.toList) W L0 K')
    (h : ∀ W' v μ' L1, ST dd F w W' μ' (L1 ++ L2) → aW μ μ' → Lo F w μ μ' → (∀ b, W.heap.size ≤ b → ∀ o, mW W' L1 b = some o → μ' b = some o) → K' v L1 W' → K v W') : fY P E ⟨d, .call ⟨.value fv, ax, ats⟩, ty, pos, af, g⟩ W K := by
  have ha' : ax.map (aR E) = args.toArray := by simpa using ha
  refine uk (args := (args ++ caps.toList).toArray) hf he (by rw [ha']; simp) (Calls.mono (hc (hST.held hL) (hST.ndup hL) (hST.subx hL) (hST.hpx_mem hL)) (fun _ W' ⟨v, L1, h1, h2, h3⟩ => ⟨v, h1, h W' v _ L1 ((hST.perm hL).back h2) ((hST.perm hL).growX_sub W' L1) ((hST.perm hL).lo_growX W' L1) ?_ h3⟩))
  intro b hb o ho
  unfold qJ
  rw [if_neg (by omega)]
  exact ho
theorem Sl.lift {α : Type} {enc : α → List Value} {k : Nat} {M μ' : aY} {B : Nat} {v : Value} {l : List α} (h : Sl (Pl enc) k M v l) (hf : Fr B v) (hM : ∀ b, B ≤ b → ∀ o, M b = some o → μ' b = some o) : Sl (Pl enc) k μ' v l := by
  obtain ⟨A, c, h1, h2, h3, h4⟩ := h
  refine ⟨A, c, h1, h2, h3, fun hl => ?_⟩
  obtain ⟨b, off, cs, T, fr, h5, h6, h7⟩ := h4 hl
  exact ⟨b, off, cs, T, fr, h5, hM b (hf b (by rw [h1, h5]; rfl)) _ h6, h7⟩
theorem vd {t : TypeId} (dd : Nat) {s u : Array TypeId} {b : Bool} (ht : P.underlying t = some (.func s u b)) (f : Fn) (a c : Array Value) (W : World) : (Op.equalIn (dd + 1) t (.func f a c) .nilFunc).run P W = .ok false W := by
  simp [Op.equalIn, run_underlying ht]
end
def pw {κ β : Type} (beq : κ → κ → Bool) (l : List (κ × β)) (k : κ) (z : β) : β := (cG beq l k).getD z
section
variable {P : Program} {W : World} {κ β : Type} {kt : TypeId} {kenc : κ → Value} {beq : κ → κ → Bool} {vf : β → Value} {E : Nat → Value} {d : Option Nat} {ty : TypeId} {pos : String} {af : Array Edge} {g : Option (Nat × Bool)} {F : Nat → Prop} {w : World} {μ : aY} {L R : List (Nat × Obj)} {v : Value} {left : List (κ × β)}
theorem pD {t e : TypeId} {m x : Operand} {mv : Value} {l : List (κ × β)} {k : κ} {z : β} (K : iM P kt kenc beq) (ht : P.underlying t = some (.map kt e)) (hz : ∀ w, (zeroValue e).run P w = .ok (vf z) w) (hm : aR E m = mv) (hx : aR E x = kenc k) (hM : nn kenc vf (hp W) mv l) :
    dT P E ⟨d, .lookup t m x false, ty, pos, af, g⟩ W (vf (pw beq l k z)) W := by
  have := yu (d := d) (ty := ty) (pos := pos) (af := af) (g := g) K ht hz hm hx hM
  rw [pw]
  cases h : cG beq l k with
  | none => rw [h] at this; exact this
  | some y => rw [h] at this; exact this
theorem dK.one {mv : Value} {l : List (κ × β)} (h : dK kenc vf mv l R) : mv.oneCell' = true := by obtain ⟨m, es, clock, rfl, _⟩ := h; rfl
theorem dK.form {mv : Value} {l : List (κ × β)} (h : dK kenc vf mv l R) : ∃ m, mv = .map (some m) := by obtain ⟨m, es, clock, rfl, _⟩ := h; exact ⟨m, rfl⟩
theorem dK.nd {mv : Value} {l : List (κ × β)} (h : dK kenc vf mv l R) : (R.map (·.1)).Nodup := by obtain ⟨m, es, clock, rfl, rfl, _⟩ := h; simp
end
def gW {α : Type} (l : List α) (i : Nat) (z : α) : List α := l.take i ++ List.replicate (l.length - i) z
theorem mT {α : Type} (l : List α) (i : Nat) (z : α) (h : i ≤ l.length) : (gW l i z).length = l.length := by simp [gW]; omega
theorem uO {α : Type} (l : List α) (i : Nat) (z : α) (h : i ≤ l.length) : (gW l i z).take i = l.take i := by
  simp only [gW]
  rw [List.take_append, List.take_of_length_le (by simp; omega)]
  simp; omega
end Go.Proofs.YtmlncblocfcmiaaGreat
namespace Go.Proofs.YtmlncblocfcmiaaGreat
open Go.RowKit
theorem xx {P : Program} {cs : Array Value} {b : Bool} {n : Nat} {W : World} : ∀ (l : List Field),
    (∀ f ∈ l, f.name ≠ "_" → ∃ v, (part f.type cs f.offset).run P W = .ok v W ∧ (Instr.checkKey b n f.type v).run P W = .ok () W) →
    ((forIn l PUnit.unit fun f (_ : PUnit) => do
      if f.name ≠ "_" then Instr.checkKey b n f.type (← part f.type cs f.offset)
      pure (ForInStep.yield PUnit.unit)) : Sem PUnit).run P W = .ok PUnit.unit W
  | [], _ => by simp
  | f :: l, h => by
    have ih := xx l (fun f hf => h f (List.mem_cons_of_mem _ hf))
    simp only [List.forIn_cons, Sem.run_bind]
    by_cases hn : f.name ≠ "_"
    · obtain ⟨v, h1, h2⟩ := h f (by simp) hn
      simp only [if_pos hn, Sem.run_bind, h1, Result.andThen_ok, h2, Sem.run_pure]
      exact ih
    · simp only [if_neg hn, Sem.run_bind, Sem.run_pure, Result.andThen_ok]
      exact ih
theorem we {P : Program} {kt : TypeId} {fs : Array Field} {l : List Field} {cs : Array Value} {b : Bool} {n : Nat} {W : World} (ht : P.underlying kt = some (.struct fs)) (hl : fs.toList = l)
    (h : ∀ f ∈ l, f.name ≠ "_" → ∃ v, (part f.type cs f.offset).run P W = .ok v W ∧ (Instr.checkKey b n f.type v).run P W = .ok () W) : (Instr.checkKey b (n + 1) kt (.agg cs)).run P W = .ok () W := by
  obtain ⟨fs⟩ := fs
  subst hl
  simp only [Instr.checkKey, Sem.run_bind, run_underlying ht, Result.andThen_ok, List.forIn_toArray]
  have := xx (P := P) (cs := cs) (b := b) (n := n) (W := W) fs h
  simp only [Sem.run_bind] at this
  first | rw [this]; rfl | simpa using this
end Go.Proofs.YtmlncblocfcmiaaGreat
namespace Go.Proofs.YtmlncblocfcmiaaGreat
open Go.RowKit
variable {dd : Bool}
def lE (b : Bool) : Option Unit := if b = true then some () else none
theorem yr {b : Bool} {u : Unit} (h : lE b = some u) : b = true := by
  unfold lE at h; split at h
  · assumption
  · cases h
theorem nE {a c : Int} {u : Unit} (h : lE (decide (0 ≤ a) && decide (a ≤ c)) = some u) : 0 ≤ a := by have := yr h; simp at this; exact this.1
theorem nR {a c : Int} {u : Unit} (h : lE (decide (0 ≤ a) && decide (a ≤ c)) = some u) : a ≤ c := by have := yr h; simp at this; exact this.2
def pZ (k : Nat) (v : Value) (i : Nat) (u : Value) : Prop := ∃ A n c A' c', v = .slice A n c ∧ u = .slice A' (n - i) c' ∧ i ≤ n ∧ (i < n → ∃ b o, A = some ⟨b, o, none⟩ ∧ A' = some ⟨b, o + i * k, none⟩)
section
variable {P : Program} {E : Nat → Value} {W : World} {d : Option Nat} {ty : TypeId} {pos : String} {af : Array Edge} {g : Option (Nat × Bool)}
  {F : Nat → Prop} {w : World} {μ : aY} {L : List (Nat × Obj)} {α : Type} {e' : TypeId} {enc : α → List Value} {k : Nat} {v : Value} {l : List α} {R : List (Nat × Obj)}
theorem pu {t e : TypeId} {x il : Operand} {ik : IntKind} {i : Int} (ht : P.underlying t = some (.slice e)) (he : ∀ w, (sizeOf e).run P w = .ok k w) (hx : aR E x = v) (hi : aR E il = .int ik i) (h : bE e' enc k v l R) (h0 : 0 ≤ i) (hl : i ≤ l.length) :
    ∃ u, pZ k v i.toNat u ∧ ∀ W, dT P E ⟨d, .slice t x (some il) none none, ty, pos, af, g⟩ W u W := by
  rcases h with ⟨rfl, rfl, rfl⟩ | ⟨g', cap, cur, rfl, rfl, h1, h2, h3, h4⟩
  · have : i = 0 := by simp at hl; omega
    subst this
    refine ⟨.slice none 0 0, ⟨none, 0, 0, none, 0, rfl, rfl, Nat.le_refl _, fun h => absurd h (by simp)⟩, fun W => ?_⟩
    show (do pure (.value (← Instr.sliceAt t (aR E x) (some (aR E il)) none none)) : Sem Next).run P W = _
    rw [hx, hi]
    simp [Instr.sliceAt, Instr.slice, Instr.sliceBounds, Instr.sliceBound, asIntOf, run_underlying ht, he W]
  · refine ⟨.slice (some (if cap = i.toNat then ⟨g', 0, none⟩ else (Addr.add ⟨g', 0, none⟩ (i.toNat * k)))) (l.length - i.toNat) (cap - i.toNat), ⟨_, _, _, _, _, rfl, rfl, by omega, fun hlt => ⟨g', 0, rfl, ?_⟩⟩, fun W => ?_⟩
    · rw [if_neg (by omega)]; simp [Addr.add_lit]
    · show (do pure (.value (← Instr.sliceAt t (aR E x) (some (aR E il)) none none)) : Sem Next).run P W = _
      rw [hx, hi]
      have hb : 0 ≤ i ∧ i ≤ (l.length : Int) := ⟨h0, hl⟩
      simp [Instr.sliceAt, Instr.slice, Instr.sliceBounds, Instr.sliceBound, asIntOf, run_underlying ht, he W, hb]
      split <;> rfl
theorem qj {i j : Nat} {x0 : α} (h : (l.drop i)[j]? = some x0) : l[i + j]? = some x0 := by rwa [List.getElem?_drop] at h
theorem xt {t e : TypeId} {x : Operand} {u : Value} {i : Nat} (ht : P.underlying t = some (.slice e)) (hx : aR E x = u) (hu : pZ k v i u) (h : bE e' enc k v l R) : dT P E ⟨d, .call ⟨.builtin .len, #[x], #[t]⟩, ty, pos, af, g⟩ W (.int .i64 ((l.length - i : Nat) : Int)) W := by
  obtain ⟨A, n, c, A', c', h1, h2, h3, _⟩ := hu
  subst h2
  have : n = l.length := by
    rcases h with ⟨rfl, rfl, rfl⟩ | ⟨g', cap, cur, rfl, rfl, _⟩
    · cases h1; rfl
    · cases h1; rfl
  subst this
  exact qg ht hx
theorem px {t e : TypeId} {x ix : Operand} {ik : IntKind} {i : Int} {x0 : α} {u : Value} {o : Nat}
    (ht : P.underlying t = some (.slice e)) (he : ∀ w, (sizeOf e).run P w = .ok k w) (hx : aR E x = u) (hi : aR E ix = .int ik i) (h : bE e' enc k v l R) (hu : pZ k v o u) (h0 : 0 ≤ i) (hl : (l.drop o)[i.toNat]? = some x0) :
    ∃ p, pR R k p (o + i.toNat) ∧ ∀ W, dT P E ⟨d, .indexAddr t x ix, ty, pos, af, g⟩ W p W := by
  have hl' := qj hl
  have hlt : o + i.toNat < l.length := (List.getElem?_eq_some_iff.1 hl').1
  rcases h with ⟨rfl, rfl, rfl⟩ | ⟨g', cap, cur, rfl, rfl, h1, h2, h3, h4⟩
  · simp at hlt
  obtain ⟨A, n, c, A', c', e1, rfl, h7, h8⟩ := hu
  cases e1
  obtain ⟨b, oo, e2, rfl⟩ := h8 (by omega)
  cases e2
  refine ⟨.pointer (some ⟨g', (o + i.toNat) * k, none⟩), ⟨_, _, rfl, rfl⟩, fun W => ?_⟩
  show (do pure (.value (← Instr.indexAt t (aR E x) (aR E ix))) : Sem Next).run P W = _
  rw [hx, hi]
  have hb : 0 ≤ i ∧ i < ((l.length - o : Nat) : Int) := ⟨h0, by omega⟩
  simp [Instr.indexAt, asIntOf, run_underlying ht, he W, hb, Addr.add_lit, Nat.add_mul]
theorem wP (ys : List Value) (m : Nat) : (Builtin.zeroCells ys.toArray m).toList = (List.replicate m ys).flatten := by
  unfold Builtin.zeroCells
  simp only [Array.toList_map, Array.toList_range, List.size_toArray]
  rcases Nat.eq_zero_or_pos ys.length with h0 | h0
  · have : ys = [] := List.length_eq_zero_iff.1 h0
    subst this
    simp
  apply List.ext_getElem?
  intro q
  by_cases hq : q < m * ys.length
  · have h1 : q / ys.length < m := (Nat.div_lt_iff_lt_mul h0).2 hq
    have h2 : q % ys.length < ys.length := Nat.mod_lt _ h0
    have := nC (enc := fun _ : Unit => ys) (fun _ => rfl) (List.replicate m ()) (q / ys.length) () (by simp [h1]) (q % ys.length) ys[q % ys.length] (by simp [h2])
    rw [Nat.div_add_mod' q ys.length] at this
    rw [List.map_replicate] at this
    rw [this]
    simp [hq, h2]
  · rw [List.getElem?_eq_none (by simp; omega), List.getElem?_eq_none (by simp; omega)]
theorem zl {K : Value → World → Prop} (z : α) (X : List (Nat × Obj)) {Y : List (Nat × Obj)} {t e : TypeId} {x : Operand} {u zv : Value} {i : Nat} (hST : ST dd F w W μ (X ++ (R ++ Y))) (h : bE e' enc k v l R) (hk : ∀ x, (enc x).length = k) (h1 : ∀ x, ∀ u ∈ enc x, u.oneCell' = true)
    (ht : P.underlying t = some (.slice e)) (hz : ∀ w, (zeroValue e).run P w = .ok zv w) (hu : pZ k v i u) (hc : zv.cells = (enc z).toArray) (hx : aR E x = u)
    (hK : ∀ W' R', ST dd F w W' μ (X ++ (R' ++ Y)) → bE e' enc k v (gW l i z) R' → K (.tuple #[]) W') : fY P E ⟨d, .call ⟨.builtin .clear, #[x], #[t]⟩, ty, pos, af, g⟩ W K := by
  have hrun : ∀ (W' : World), (Builtin.clear_ #[t] ty #[u]).run P W = .ok (.tuple #[]) W' → (execOp (aR E) ⟨d, .call ⟨.builtin .clear, #[x], #[t]⟩, ty, pos, af, g⟩).run P W = .ok (.value (.tuple #[])) W' := by
    intro W' hV
    show (do let d ← resolve (aR E) ⟨.builtin .clear, #[x], #[t]⟩ ty; invoke d.target d.args : Sem Next).run P W = _
    simp [resolve, invoke, builtin, hx, hV]
  obtain ⟨A, n, c, A', c', e1, rfl, h7, h8⟩ := hu
  rcases h with ⟨rfl, rfl, rfl⟩ | ⟨g', cap, cur, rfl, rfl, q1, q2, q3, q4⟩
  · cases e1
    refine .inl ⟨_, W, hrun W ?_, hK W [] hST (by simpa [gW] using bE.nil e' enc k)⟩
    simp only [Builtin.clear_, Nat.zero_sub]
    cases A' <;> simp [run_underlying ht]
  · cases e1
    by_cases hi : i < l.length
    · obtain ⟨b, o, e2, rfl⟩ := h8 hi
      cases e2
      have hzr : ∀ m, (Builtin.zeroCells zv.cells m).toList = (List.replicate m (enc z)).flatten := by
        intro m
        rw [hc]; exact wP _ _
      have hb := (hST.box g' (.cells cur e' (0, 0)) (by simp)).1
      have hle : i * k + (l.length - i) * k = l.length * k := by rw [← Nat.add_mul]; congr 1; omega
      have hlen : l.length * k ≤ c * k := Nat.mul_le_mul_right _ q1
      have hzl : ((List.replicate (l.length - i) (enc z)).flatten).length = (l.length - i) * k := by simp [hk]
      have hone : ∀ v ∈ (List.replicate (l.length - i) (enc z)).flatten, v.oneCell' = true := by
        intro v hv
        obtain ⟨ys, hys, hv⟩ := List.mem_flatten.1 hv
        rw [(List.mem_replicate.1 hys).2] at hv
        exact h1 z v hv
      have hs := run_storeCells_at (P := P) g' (i * k) e' ((List.replicate (l.length - i) (enc z)).flatten) 0 cur W hb (by rw [hzl, q3]; omega) hone
      rw [Nat.add_zero, hzl, hle] at hs
      refine .inl ⟨_, W.setRow g' (cur.toList.take (i * k) ++ (List.replicate (l.length - i) (enc z)).flatten ++ cur.toList.drop (l.length * k)).toArray, hrun _ ?_, hK _ [(g', .cells (cur.toList.take (i * k) ++ (List.replicate (l.length - i) (enc z)).flatten ++ cur.toList.drop (l.length * k)).toArray e' (0, 0))] (hST.store _) (.inr ⟨g', c, _, by rw [mT _ _ _ h7], rfl, by rw [mT _ _ _ h7]; exact q1, q2, ?_, ?_⟩)⟩
      · have hn : l.length - i = (l.length - i - 1) + 1 := by omega
        simp only [Builtin.clear_]
        rw [hn]
        simp only [run_underlying ht, Sem.run_bind, Result.andThen_ok, List.getElem?_toArray, List.getElem?_cons_zero, hz, Nat.zero_add]
        rw [← hn, hzr, hs]
        simp
      · have e0 : cur.toList.length = c * k := by simpa using q3
        rw [List.size_toArray, List.length_append, List.length_append, List.length_take, List.length_drop, hzl, e0, Nat.min_eq_left (by omega)]
        omega
      · rw [mT _ _ _ h7, gW, List.map_append, List.flatten_append, ug hk l i h7, ← q4, List.take_take, Nat.min_eq_left (by omega), List.map_replicate]
        have e0 : cur.toList.length = c * k := by simpa using q3
        have e3 : (cur.toList.take (i * k) ++ (List.replicate (l.length - i) (enc z)).flatten).length = l.length * k := by rw [List.length_append, List.length_take, hzl, e0, Nat.min_eq_left (by omega)]; omega
        show List.take (l.length * k) (cur.toList.take (i * k) ++ (List.replicate (l.length - i) (enc z)).flatten ++ cur.toList.drop (l.length * k)) = _
        rw [List.take_append, List.take_of_length_le (by rw [e3]; exact Nat.le_refl _), e3, Nat.sub_self]
        simp
    · have hi' : i = l.length := by omega
      subst hi'
      refine .inl ⟨_, W, hrun W ?_, hK W _ hST ?_⟩
      · simp only [Builtin.clear_, Nat.sub_self]
        cases A' <;> simp [run_underlying ht]
      · simp only [gW, List.take_length, Nat.sub_self, List.replicate_zero, List.append_nil]
        exact .inr ⟨g', c, cur, rfl, rfl, q1, q2, q3, q4⟩
end
end Go.Proofs.YtmlncblocfcmiaaGreat
namespace Go.Proofs.YtmlncblocfcmiaaGreat
open Go.RowKit
variable {dd : Bool}
section
variable {P : Program} {E : Nat → Value} {W : World} {d : Option Nat} {ty : TypeId} {pos : String} {af : Array Edge} {g : Option (Nat × Bool)}
  {F : Nat → Prop} {w : World} {μ : aY} {L : List (Nat × Obj)}
theorem AB {K : Value → World → Prop} {f : FuncId} {fv : Operand} {ax : Array Operand} {ats : Array TypeId} {args : List Value} {v : Value}
    (hf : aR E fv = .func (.func f) #[] #[]) (ha : ax.map (aR E) ++ (#[] : Array Value) = args.toArray) (hr : (callFunc f args.toArray).run P W = .ok (.value v) W) (h : K v W) : fY P E ⟨d, .call ⟨.value fv, ax, ats⟩, ty, pos, af, g⟩ W K := by
  have ha' : ax.map (aR E) = args.toArray := by simpa using ha
  refine .inl ⟨v, W, ?_, h⟩
  show (do let d ← resolve (aR E) ⟨.value fv, ax, ats⟩ ty; invoke d.target d.args : Sem Next).run P W = _
  simp only [resolve, hf, Deferred.ofValue, Sem.run_bind, Sem.run_pure, Result.andThen_ok, invoke]
  rw [ha']
  simpa using hr
def nM (s : ByteArray) (c : Int) : Int := Lib.indexByte s.data.toList c.toNat.toUInt8
def lY (a b : ByteArray) : Int := Lib.compareBytes a.data.toList b.data.toList
def oY (l : List Int) : List UInt8 := l.map fun x => x.toNat.toUInt8
def oA (a b : List Int) : Int := Lib.compareBytes (oY a) (oY b)
theorem wI {f : FuncId} {fn : Func} (hf : P.funcs[f]? = some fn) (hname : (fn.name == "runtime.NumGoroutine") = false) (hb : fn.body.isNone = true) (hn : Extern.findNext fn = none) (he : Extern.find fn = some Extern.BytealgIndexByte.indexByte) (s : ByteArray) (c : Int) (w : World) :
    (callFunc f [Value.string s, .int .u8 c].toArray).run P w = .ok (.value (.int .i64 (nM s c))) w := by
  rw [run_callFunc_extern hf hname hb hn he]
  rw [Lib.run_indexByteString]
  rfl
theorem CM {f : FuncId} {fn : Func} (hf : P.funcs[f]? = some fn) (hname : (fn.name == "runtime.NumGoroutine") = false) (hb : fn.body.isNone = true) (hn : Extern.findNext fn = none) (he : Extern.find fn = some Extern.BytealgCompare.compare) (a b : ByteArray) (w : World) :
    (callFunc f [Value.string a, .string b].toArray).run P w = .ok (.value (.int .i64 (lY a b))) w := by
  rw [run_callFunc_extern hf hname hb hn he]
  rw [Lib.run_compareString]
  rfl
theorem sW {v : Value} {l : List Int} (h : Sl (Pl (cT .u8)) 1 (hp W) v l) : (Extern.Bytes.bytesOf v).run P W = .ok ⟨(oY l).toArray⟩ W := by
  obtain ⟨A, c, rfl, h2, h3, h4⟩ := h
  rcases Nat.eq_zero_or_pos l.length with h0 | h0
  · have : l = [] := List.length_eq_zero_iff.1 h0
    subst this
    cases A <;> simp [Extern.Bytes.bytesOf, Extern.Bytes.loadBytes, oY] <;> rfl
  · obtain ⟨b, off, cs, T, fr, rfl, h6, h7⟩ := h4 h0
    have := Lib.run_loadBytesX (P := P) W l ⟨b, off, none⟩ .empty (fun j x hj => by
      obtain ⟨ys, _, hys, h12⟩ := h7 j x hj
      cases hys
      rw [Addr.add_lit, cell_of_row W b (off + j) cs T fr h6]
      have := h12 0 (.int .u8 x) rfl
      simpa using this)
    simp only [Extern.Bytes.bytesOf]
    rw [this]
    congr 1
    apply ByteArray.ext
    show (#[] : Array UInt8) ++ _ = _
    simp [Lib.bytesOf, oY]
theorem CK {f : FuncId} {fn : Func} (hf : P.funcs[f]? = some fn) (hname : (fn.name == "runtime.NumGoroutine") = false) (hb : fn.body.isNone = true) (hn : Extern.findNext fn = none) (he : Extern.find fn = some Extern.BytealgCompare.compare) {va vb : Value} {a b : List Int}
    (h1 : Sl (Pl (cT .u8)) 1 (hp W) va a) (h2 : Sl (Pl (cT .u8)) 1 (hp W) vb b) :
    (callFunc f [va, vb].toArray).run P W = .ok (.value (.int .i64 (oA a b))) W := by
  rw [run_callFunc_extern hf hname hb hn he]
  have : (Extern.BytealgCompare.compare [va, vb].toArray).run P W = .ok (.int .i64 (oA a b)) W := by
    change Sem.run P (do pure (goInt (Extern.BytealgCompare.cmp (← Extern.Bytes.bytesOf va) (← Extern.Bytes.bytesOf vb)))) W = _
    simp only [Sem.run_bind, sW h1, sW h2, Sem.run_pure, Result.andThen]
    rw [Lib.cmp_eq]
    rfl
  rw [this]
  rfl
theorem vJ {t e : TypeId} {k b m c o : Nat} {x ix : Operand} {ik : IntKind} {i : Int} (ht : P.underlying t = some (.slice e)) (he : ∀ w, (sizeOf e).run P w = .ok k w) (hx : aR E x = .slice (some ⟨b, 0, none⟩) m c) (hi : aR E ix = .int ik i) (h0 : 0 ≤ i) (hl : i < (m : Int)) (ho : i.toNat * k = o) :
    dT P E ⟨d, .indexAddr t x ix, ty, pos, af, g⟩ W (.pointer (some ⟨b, o, none⟩)) W := by
  show (do pure (.value (← Instr.indexAt t (aR E x) (aR E ix))) : Sem Next).run P W = _
  rw [hx, hi]
  subst ho
  have hb : 0 ≤ i ∧ i < (m : Int) := ⟨h0, hl⟩
  simp [Instr.indexAt, asIntOf, run_underlying ht, he W, hb, Addr.add_lit]
theorem ko {fn : Fn} {caps : Array Operand} {cs : List Value} {v : Value} (hc : caps.map (aR E) ++ (#[] : Array Value) = cs.toArray) (hv : .func fn #[] cs.toArray = v) : dT P E ⟨d, .makeFunc fn #[] caps, ty, pos, af, g⟩ W v W := by
  have : caps.map (aR E) = cs.toArray := by simpa using hc
  exact AD (by rw [this]; simpa using hv)
theorem dJ.mono {f : FuncId} {args : List Value} {L0 : List (Nat × Obj)} {K K' : Value → List (Nat × Obj) → World → Prop} (h : dJ dd P f args w L0 K) (hk : ∀ v L1 W', K v L1 W' → K' v L1 W') : dJ dd P f args w L0 K' :=
  Calls.mono h (fun _ _ ⟨v, L1, h1, h2, h3⟩ => ⟨v, L1, h1, h2, hk _ _ _ h3⟩)
end
section
variable {α : Type}
def lL (cf : α × α → Option Int) (x y : α) : Bool := match cf (x, y) with
  | some c => decide (c < 0)
  | none => false
structure tQ (cf : α × α → Option Int) (l : List α) : Prop where
  is : ∀ x ∈ l, ∀ y ∈ l, ∃ c, cf (x, y) = some c
  irrefl : ∀ x ∈ l, lL cf x x = false
  trans : ∀ x ∈ l, ∀ y ∈ l, ∀ z ∈ l, lL cf x y = true → lL cf y z = true → lL cf x z = true
  total : ∀ x ∈ l, ∀ y ∈ l, lL cf x y = false → lL cf y x = false → x = y
  short : l.length < 4611686018427387904
def lX (cf : α × α → Option Int) (l : List α) : List α := l.mergeSort fun x y => !lL cf y x
open Classical in
noncomputable def qG (cf : α × α → Option Int) (l : List α) : Option (List α) := if tQ cf l then some (lX cf l) else none
theorem A0 {cf : α × α → Option Int} {l r : List α} (h : qG cf l = some r) : tQ cf l ∧ r = lX cf l := by
  unfold qG at h
  split at h
  · rename_i hs; cases h; exact ⟨hs, rfl⟩
  · cases h
theorem Cc {cf : α × α → Option Int} {l : List α} (h : tQ cf l) : qG cf l = some (lX cf l) := by
  unfold qG; rw [if_pos h]
def ms (l : List ByteArray) : List ByteArray := l.mergeSort fun x y => !uK y x
end
end Go.Proofs.YtmlncblocfcmiaaGreat
namespace Go.Proofs.YtmlncblocfcmiaaGreat
open Go.RowKit
variable {dd : Bool}
def nt {κ γ : Type} (Q : Value → γ → List (Nat × Obj) → Prop) : List (κ × Value) → List (κ × γ) → List (Nat × Obj) → Prop
  | [], [], R => R = []
  | p :: lv, q :: l, R => p.1 = q.1 ∧ ∃ R1 R2, R = R1 ++ R2 ∧ Q p.2 q.2 R1 ∧ nt Q lv l R2
  | _, _, _ => False
def eG {κ γ : Type} (kenc : κ → Value) (Q : Value → γ → List (Nat × Obj) → Prop) (v : Value) (lv : List (κ × Value)) (l : List (κ × γ)) (R : List (Nat × Obj)) : Prop :=
  ∃ Rm Rv, R = Rm ++ Rv ∧ dK kenc (fun x => x) v lv Rm ∧ nt Q lv l Rv
section
variable {κ γ : Type} {Q : Value → γ → List (Nat × Obj) → Prop} {beq : κ → κ → Bool} {kenc : κ → Value}
theorem nt.keys : ∀ {lv : List (κ × Value)} {l : List (κ × γ)} {R : List (Nat × Obj)}, nt Q lv l R → lv.map (·.1) = l.map (·.1)
  | [], [], _, _ => rfl
  | [], _ :: _, _, h => h.elim
  | _ :: _, [], _, h => h.elim
  | p :: lv, q :: l, R, h => by
    obtain ⟨h1, R1, R2, _, _, h4⟩ := h
    simp [h1, nt.keys h4]
theorem nt.find {lv : List (κ × Value)} {l : List (κ × γ)} {R : List (Nat × Obj)} (h : nt Q lv l R) (k : κ) : lv.findIdx? (fun p => beq k p.1) = l.findIdx? (fun p => beq k p.1) := by
  have h1 : (lv.map (·.1)).findIdx? (fun x => beq k x) = (l.map (·.1)).findIdx? (fun x => beq k x) := by rw [h.keys]
  rw [List.findIdx?_map, List.findIdx?_map] at h1
  exact h1
theorem nt.get : ∀ {lv : List (κ × Value)} {l : List (κ × γ)} {R : List (Nat × Obj)}, nt Q lv l R → ∀ (i : Nat) (k : κ) (x : γ), l[i]? = some (k, x) →
    ∃ v A R1 B, lv[i]? = some (k, v) ∧ R = A ++ (R1 ++ B) ∧ Q v x R1 ∧ ∀ k2 v2 x2 R2, Q v2 x2 R2 → nt Q (lv.set i (k2, v2)) (l.set i (k2, x2)) (A ++ (R2 ++ B))
  | [], [], _, _, i, k, x, hi => by simp at hi
  | [], _ :: _, _, h, _, _, _, _ => h.elim
  | _ :: _, [], _, h, _, _, _, _ => h.elim
  | p :: lv, q :: l, R, h, 0, k, x, hi => by
    obtain ⟨h1, R1, R2, rfl, h3, h4⟩ := h
    simp at hi
    subst hi
    refine ⟨p.2, [], R1, R2, by simp only [List.getElem?_cons_zero]; exact congrArg some (Prod.ext h1 rfl), rfl, h3, fun k2 v2 x2 R2' hq => ⟨rfl, R2', R2, rfl, hq, h4⟩⟩
  | p :: lv, q :: l, R, h, i + 1, k, x, hi => by
    obtain ⟨h1, R1, R2, rfl, h3, h4⟩ := h
    simp at hi
    obtain ⟨v, A, R1', B, g1, rfl, g3, g4⟩ := nt.get h4 i k x hi
    exact ⟨v, R1 ++ A, R1', B, by simpa using g1, by simp, g3, fun k2 v2 x2 R2' hq => ⟨h1, R1, A ++ (R2' ++ B), by simp, h3, g4 k2 v2 x2 R2' hq⟩⟩
theorem nt.push : ∀ {lv : List (κ × Value)} {l : List (κ × γ)} {R : List (Nat × Obj)}, nt Q lv l R → ∀ (k : κ) {v : Value} {x : γ} {R1 : List (Nat × Obj)}, Q v x R1 → nt Q (lv ++ [(k, v)]) (l ++ [(k, x)]) (R ++ R1)
  | [], [], _, h, k, v, x, R1, hq => by
    have h' : _ = [] := h
    subst h'
    exact ⟨rfl, R1, [], by simp, hq, rfl⟩
  | [], _ :: _, _, h, _, _, _, _, _ => h.elim
  | _ :: _, [], _, h, _, _, _, _, _ => h.elim
  | p :: lv, q :: l, R, h, k, v, x, R1, hq => by
    obtain ⟨h1, Ra, Rb, rfl, h3, h4⟩ := h
    exact ⟨h1, Ra, Rb ++ R1, by simp, h3, nt.push h4 k hq⟩
theorem eG.found {mv : Value} {lv : List (κ × Value)} {l : List (κ × γ)} {R : List (Nat × Obj)} (hk : ∀ {x y : κ}, beq x y = true → x = y) (h : eG kenc Q mv lv l R) {k : κ} {x : γ} (hx : cG beq l k = some x) :
    ∃ v A R1 B, cG beq lv k = some v ∧ R = A ++ (R1 ++ B) ∧ Q v x R1 ∧ (∀ x2 R2, Q v x2 R2 → eG kenc Q mv lv (gG beq l k x2) (A ++ (R2 ++ B))) := by
  obtain ⟨Rm, Rv, rfl, h2, h3⟩ := h
  rw [om] at hx
  cases hi : l.findIdx? (fun p => beq k p.1) with
  | none => rw [hi] at hx; cases hx
  | some i =>
    rw [hi] at hx
    obtain ⟨p, hp, hb⟩ := kr hi
    simp only [Option.bind_some, hp, Option.map_some, Option.some.injEq] at hx
    subst hx
    have hkk := hk hb
    obtain ⟨v, A, R1, B, g1, rfl, g3, g4⟩ := h3.get i p.1 p.2 hp
    have hi2 : lv.findIdx? (fun p => beq k p.1) = some i := by rw [h3.find k, hi]
    refine ⟨v, Rm ++ A, R1, B, by rw [om, hi2]; simp [g1], by simp, g3, fun x2 R2 hq => ⟨Rm, A ++ (R2 ++ B), by simp, h2, ?_⟩⟩
    have hset := g4 k v x2 R2 hq
    have e : lv.set i (k, v) = lv := by
      apply List.ext_getElem?
      intro j
      rw [List.getElem?_set]
      split
      · rename_i hij
        subst hij
        rw [g1, hkk]
        simp [(List.getElem?_eq_some_iff.1 g1).1]
      · rfl
    rw [e] at hset
    rw [gG, hi]
    exact hset
theorem eG.miss {mv : Value} {lv : List (κ × Value)} {l : List (κ × γ)} {R : List (Nat × Obj)} (h : eG kenc Q mv lv l R) {k : κ} (hx : cG beq l k = none) : cG beq lv k = none := by
  obtain ⟨Rm, Rv, rfl, h2, h3⟩ := h
  rw [om] at hx ⊢
  rw [h3.find k]
  cases hi : l.findIdx? (fun p => beq k p.1) with
  | none => rfl
  | some i =>
    rw [hi] at hx
    obtain ⟨p, hp, hb⟩ := kr hi
    simp [hp] at hx
def jT (beq : κ → κ → Bool) (lv : List (κ × Value)) (k : κ) (z : Value) : Value := (cG beq lv k).getD z
variable {P : Program} {W : World} {kt : TypeId} {E : Nat → Value} {d : Option Nat} {ty : TypeId} {pos : String} {af : Array Edge} {g : Option (Nat × Bool)} {F : Nat → Prop} {w : World} {μ : aY} {L : List (Nat × Obj)}
theorem iE {t e : TypeId} {m x : Operand} {mv z : Value} {lv : List (κ × Value)} {l : List (κ × γ)} {R : List (Nat × Obj)} {k : κ} (K : iM P kt kenc beq) (ht : P.underlying t = some (.map kt e)) (hz : ∀ w, (zeroValue e).run P w = .ok z w)
    (hm : aR E m = mv) (hx : aR E x = kenc k) (hM : eG kenc Q mv lv l R) (hR : ∀ b o, (b, o) ∈ R → W.heap[b]? = some o) : dT P E ⟨d, .lookup t m x false, ty, pos, af, g⟩ W (jT beq lv k z) W := by
  obtain ⟨Rm, Rv, rfl, h2, h3⟩ := hM
  have h4 := yu (d := d) (ty := ty) (pos := pos) (af := af) (g := g) K ht hz hm hx (h2.at (μ := hp W) (fun b o h => hR b o (List.mem_append_left _ h)))
  simpa [jT] using h4
variable {κ2 β : Type} {kenc2 : κ2 → Value} {vf : β → Value} {beq2 : κ2 → κ2 → Bool} {kt2 : TypeId}
theorem eG.mapAt {mv : Value} {lv : List (κ × Value)} {l : List (κ × List (κ2 × β))} {R : List (Nat × Obj)} (hk : ∀ {x y : κ}, beq x y = true → x = y) (h : eG kenc (dK kenc2 vf) mv lv l R) (k : κ) {μ : aY} (hR : ∀ b o, (b, o) ∈ R → μ b = some o) :
    nn kenc2 vf μ (jT beq lv k (.map none)) ((cG beq l k).getD []) := by
  cases hx : cG beq l k with
  | none => rw [jT, h.miss hx]; exact .inl ⟨rfl, rfl⟩
  | some x =>
    obtain ⟨v, A, R1, B, g1, rfl, g3, _⟩ := h.found hk hx
    rw [jT, g1]
    exact g3.at (fun b o hb => hR b o (by simp [hb]))
theorem eG.isNil {mv : Value} {lv : List (κ × Value)} {l : List (κ × List (κ2 × β))} {R : List (Nat × Obj)} (hk : ∀ {x y : κ}, beq x y = true → x = y) (h : eG kenc (dK kenc2 vf) mv lv l R) (k : κ) :
    ∃ r, jT beq lv k (.map none) = .map r ∧ r.isNone = (cG beq l k).isNone := by
  cases hx : cG beq l k with
  | none => rw [jT, h.miss hx]; exact ⟨none, rfl, rfl⟩
  | some x =>
    obtain ⟨v, A, R1, B, g1, rfl, g3, _⟩ := h.found hk hx
    obtain ⟨m, es, clock, rfl, _⟩ := g3
    rw [jT, g1]
    exact ⟨_, rfl, rfl⟩
def vj {κ κ2 β : Type} (beq : κ → κ → Bool) (beq2 : κ2 → κ2 → Bool) (l : List (κ × List (κ2 × β))) (k : κ) (k2 : κ2) (x : β) : Option (List (κ × List (κ2 × β))) := (cG beq l k).map fun l2 => gG beq l k (gG beq2 l2 k2 x)
def vm {κ γ : Type} (beq : κ → κ → Bool) (l : List (κ × γ)) (k : κ) (x : γ) : Option (List (κ × γ)) := if (cG beq l k).isNone then some (gG beq l k x) else none
theorem BD {Kk : Value → World → Prop} (X : List (Nat × Obj)) {Y R : List (Nat × Obj)} {t e : TypeId} {m x y : Operand} {mv : Value} {lv : List (κ × Value)} {l l' : List (κ × List (κ2 × β))} {k : κ} {k2 : κ2} {v : β} (hk : ∀ {x y : κ}, beq x y = true → x = y) (K : iM P kt2 kenc2 beq2) (ht : P.underlying t = some (.map kt2 e))
    (hST : ST dd F w W μ (X ++ (R ++ Y))) (h : eG kenc (dK kenc2 vf) mv lv l R) (hm : aR E m = jT beq lv k (.map none)) (hx : aR E x = kenc2 k2) (hy : aR E y = vf v) (hl : vj beq beq2 l k k2 v = some l')
    (hK : ∀ W' R', ST dd F w W' μ (X ++ (R' ++ Y)) → eG kenc (dK kenc2 vf) mv lv l' R' → Kk undef W') : fY P E ⟨d, .mapUpdate t m x y, ty, pos, af, g⟩ W Kk := by
  unfold vj at hl
  cases hg : cG beq l k with
  | none => rw [hg] at hl; cases hl
  | some l2 =>
    rw [hg] at hl
    cases hl
    obtain ⟨u, A, R1, B, g1, rfl, g3, g4⟩ := h.found hk hg
    have hm' : aR E m = u := by rw [hm, jT, g1]; rfl
    have hST' : ST dd F w W μ ((X ++ A) ++ (R1 ++ (B ++ Y))) := by simpa using hST
    refine rn (X ++ A) K ht hST' g3 hm' hx hy (fun W' R' h1 h2 => hK W' (A ++ (R' ++ B)) ?_ (g4 _ _ h2))
    simpa using h1
theorem BT {Kk : Value → World → Prop} (X : List (Nat × Obj)) {Y R R2 : List (Nat × Obj)} {t e : TypeId} {m x y : Operand} {mv : Value} {lv : List (κ × Value)} {l l' : List (κ × γ)} {k : κ} {u : Value} {z : γ} (K : iM P kt kenc beq) (ht : P.underlying t = some (.map kt e))
    (hST : ST dd F w W μ (X ++ (R ++ (R2 ++ Y)))) (h : eG kenc Q mv lv l R) (hm : aR E m = mv) (hx : aR E x = kenc k) (hy : aR E y = u) (hq : Q u z R2) (hl : vm beq l k z = some l')
    (hK : ∀ W' R', ST dd F w W' μ (X ++ (R' ++ Y)) → eG kenc Q mv (gG beq lv k u) l' R' → Kk undef W') : fY P E ⟨d, .mapUpdate t m x y, ty, pos, af, g⟩ W Kk := by
  unfold vm at hl
  cases hg : cG beq l k with
  | some l2 => rw [hg] at hl; cases hl
  | none =>
    rw [hg] at hl
    simp only [Option.isNone_none, if_true, Option.some.injEq] at hl
    subst hl
    have hn := h.miss hg
    obtain ⟨Rm, Rv, rfl, h2, h3⟩ := h
    have hST' : ST dd F w W μ (X ++ (Rm ++ (Rv ++ (R2 ++ Y)))) := by simpa using hST
    refine rn X K ht hST' h2 hm hx hy (fun W' R' g1 g2 => hK W' (R' ++ (Rv ++ R2)) (by simpa using g1) ⟨R', Rv ++ R2, rfl, g2, ?_⟩)
    have e1 : ∀ {δ : Type} (q : List (κ × δ)) (y : δ), cG beq q k = none → gG beq q k y = q ++ [(k, y)] := fun q y hq' => by
      rw [om] at hq'
      rw [gG]
      cases hi : q.findIdx? (fun p => beq k p.1) with
      | none => rfl
      | some i =>
        obtain ⟨p, hp, _⟩ := kr hi
        rw [hi] at hq'
        simp [hp] at hq'
    rw [e1 lv u hn, e1 l z hg]
    exact h3.push k hq
end
end Go.Proofs.YtmlncblocfcmiaaGreat
namespace Go.Proofs.YtmlncblocfcmiaaGreat
open Go.RowKit
variable {dd : Bool}
section
variable {κ γ : Type} {Q : Value → γ → List (Nat × Obj) → Prop} {beq : κ → κ → Bool} {kenc : κ → Value}
theorem jI {δ : Type} {l : List (κ × δ)} {k : κ} {i : Nat} (h : l.findIdx? (fun p => beq k p.1) = some i) (x : δ) : gG beq l k x = l.set i (k, x) := by rw [gG, h]
theorem mI {δ : Type} {l : List (κ × δ)} {k : κ} (h : l.findIdx? (fun p => beq k p.1) = none) (x : δ) : gG beq l k x = l ++ [(k, x)] := by rw [gG, h]
theorem tZ {δ : Type} {l : List (κ × δ)} {k : κ} (h : l.findIdx? (fun p => beq k p.1) = none) : cG beq l k = none := by rw [om, h]; rfl
theorem si {δ : Type} {l : List (κ × δ)} {k : κ} {i : Nat} {p : κ × δ} (h : l.findIdx? (fun p => beq k p.1) = some i) (hp : l[i]? = some p) : cG beq l k = some p.2 := by rw [om, h]; simp [hp]
def AS (beq : κ → κ → Bool) (kenc : κ → Value) (Q : Value → γ → List (Nat × Obj) → Prop) (mv : Value) (lv : List (κ × Value)) (l : List (κ × γ)) (k : κ) (R : List (Nat × Obj)) : Prop :=
  ∃ Rm A B, R = Rm ++ (A ++ B) ∧ dK kenc (fun x => x) mv lv Rm ∧ ∀ v x R1, Q v x R1 → nt Q (gG beq lv k v) (gG beq l k x) (A ++ (R1 ++ B))
theorem eG.open (hk : ∀ {x y : κ}, beq x y = true → x = y) {mv z : Value} {x0 : γ} (hq0 : Q z x0 []) {lv : List (κ × Value)} {l : List (κ × γ)} {R : List (Nat × Obj)} (h : eG kenc Q mv lv l R) (k : κ) :
    ∃ R' R1, R.Perm (R' ++ R1) ∧ Q (jT beq lv k z) ((cG beq l k).getD x0) R1 ∧ AS beq kenc Q mv lv l k R' := by
  obtain ⟨Rm, Rv, rfl, h2, h3⟩ := h
  have hf := h3.find (beq := beq) k
  cases hi : l.findIdx? (fun p => beq k p.1) with
  | none =>
    rw [hi] at hf
    refine ⟨Rm ++ Rv, [], by simp, ?_, Rm, Rv, [], by simp, h2, fun v x R1 hq => ?_⟩
    · rw [jT, tZ hi, tZ hf]; exact hq0
    · rw [mI hi, mI hf]; simpa using h3.push k hq
  | some i =>
    rw [hi] at hf
    obtain ⟨p, hp, hb⟩ := kr hi
    have hkk := hk hb
    obtain ⟨v, A, R1, B, g1, rfl, g3, g4⟩ := h3.get i p.1 p.2 hp
    refine ⟨Rm ++ (A ++ B), R1, ?_, ?_, Rm, A, B, rfl, h2, fun v2 x2 R2 hq => ?_⟩
    · rw [List.append_assoc, List.append_assoc]
      refine List.Perm.append_left _ (List.Perm.append_left _ List.perm_append_comm)
    · rw [jT, si hi hp, si hf g1]; exact g3
    · rw [jI hi, jI hf]; exact g4 k v2 x2 R2 hq
variable {P : Program} {W : World} {kt : TypeId} {E : Nat → Value} {d : Option Nat} {ty : TypeId} {pos : String} {af : Array Edge} {g : Option (Nat × Bool)} {F : Nat → Prop} {w : World} {μ : aY} {L : List (Nat × Obj)}
theorem Ec {Kk : Value → World → Prop} (X : List (Nat × Obj)) {Y R R1 : List (Nat × Obj)} {t e : TypeId} {m x y : Operand} {mv : Value} {lv : List (κ × Value)} {l : List (κ × γ)} {k : κ} {u : Value} {z : γ} (K : iM P kt kenc beq) (ht : P.underlying t = some (.map kt e))
    (hST : ST dd F w W μ (X ++ (R ++ (R1 ++ Y)))) (h : AS beq kenc Q mv lv l k R) (hm : aR E m = mv) (hx : aR E x = kenc k) (hy : aR E y = u) (hq : Q u z R1)
    (hK : ∀ W' R', ST dd F w W' μ (X ++ (R' ++ Y)) → eG kenc Q mv (gG beq lv k u) (gG beq l k z) R' → Kk undef W') : fY P E ⟨d, .mapUpdate t m x y, ty, pos, af, g⟩ W Kk := by
  obtain ⟨Rm, A, B, rfl, h2, h3⟩ := h
  have hST' : ST dd F w W μ (X ++ (Rm ++ (A ++ (B ++ (R1 ++ Y))))) := by simpa using hST
  refine rn X K ht hST' h2 hm hx hy (fun W' R' g1 g2 => hK W' (R' ++ (A ++ (R1 ++ B))) ?_ ⟨R', A ++ (R1 ++ B), rfl, g2, h3 u z R1 hq⟩)
  refine g1.perm ?_
  simp only [List.append_assoc]
  refine List.Perm.append_left _ (List.Perm.append_left _ (List.Perm.append_left _ ?_))
  rw [← List.append_assoc, ← List.append_assoc]
  exact List.Perm.append_right _ List.perm_append_comm
def xW (beq : κ → κ → Bool) (kenc : κ → Value) (Q : Value → γ → List (Nat × Obj) → Prop) (mv : Value) (l : List (κ × γ)) (k : κ) (st : Nat) (R : List (Nat × Obj)) : Prop :=
  ∃ m es clock lv A B i e, mv = .map (some m) ∧ R = (m, .map es clock) :: (A ++ B) ∧ mi kenc (fun x => x) lv es clock ∧ es[i]? = some e ∧ e.born = st ∧ lv.findIdx? (fun p => beq k p.1) = some i ∧
    ∀ v x R1, Q v x R1 → nt Q (gG beq lv k v) (gG beq l k x) (A ++ (R1 ++ B))
theorem xm {δ : Type} (hk : ∀ x : κ, beq x x = true) (lv : List (κ × δ)) (k : κ) (a b : δ) : gG beq (gG beq lv k a) k b = gG beq lv k b := by
  cases hi : lv.findIdx? (fun p => beq k p.1) with
  | none =>
    have h1 : (lv ++ [(k, a)]).findIdx? (fun p => beq k p.1) = some lv.length := by
      rw [List.findIdx?_append, hi]
      simp [List.findIdx?_cons, hk]
    rw [mI hi, mI hi, jI h1]
    simp
  | some i =>
    obtain ⟨p, hp, hb⟩ := kr hi
    have h1 : (lv.set i (k, a)).findIdx? (fun p => beq k p.1) = some i := by
      rw [List.findIdx?_eq_some_iff_getElem] at hi ⊢
      obtain ⟨h1, h2, h3⟩ := hi
      refine ⟨by simpa using h1, by simp [hk], fun j hj => ?_⟩
      rw [List.getElem_set_ne (by omega)]
      exact h3 j hj
    rw [jI hi, jI hi, jI h1]
    simp
end
end Go.Proofs.YtmlncblocfcmiaaGreat
namespace Go.Proofs.YtmlncblocfcmiaaGreat
open Go.RowKit
variable {dd : Bool}
section
variable {κ γ : Type} {Q : Value → γ → List (Nat × Obj) → Prop} {beq : κ → κ → Bool} {kenc : κ → Value}
variable {P : Program} {W : World} {kt : TypeId} {E : Nat → Value} {d : Option Nat} {ty : TypeId} {pos : String} {af : Array Edge} {g : Option (Nat × Bool)} {F : Nat → Prop} {w : World} {μ : aY} {L : List (Nat × Obj)}
theorem tU {es : Array MapEntry} {i : Nat} {f f' : MapEntry → MapEntry} (h : ∀ e, es[i]? = some e → f e = f' e) : es.modify i f = es.modify i f' := by
  apply Array.ext_getElem?
  intro j
  rw [Array.getElem?_modify, Array.getElem?_modify]
  split
  · rename_i hij
    subst hij
    cases he : es[i]? with
    | none => rfl
    | some e => simp [h e he]
  · rfl
theorem mi.val {lv : List (κ × Value)} {es : Array MapEntry} {clock : Nat} (h : mi kenc (fun x => x) lv es clock) {i : Nat} {e : MapEntry} (he : es[i]? = some e) : ∃ p, lv[i]? = some p ∧ e.key = kenc p.1 ∧ e.val = p.2 := by
  have hj := congrArg (fun q => q[i]?) h.pairs
  simp only [List.getElem?_map, Array.getElem?_toList, he, Option.map_some] at hj
  cases hp : lv[i]? with
  | none => rw [hp] at hj; cases hj
  | some p =>
    rw [hp] at hj
    simp only [Option.map_some, Option.some.injEq, Prod.mk.injEq] at hj
    exact ⟨p, rfl, hj.1, hj.2⟩
theorem AA {Kk : Value → World → Prop} (X : List (Nat × Obj)) {Y R : List (Nat × Obj)} {t e : TypeId} {m x : Operand} {mv z : Value} {x0 : γ} {lv : List (κ × Value)} {l : List (κ × γ)} {k : κ} (hk : ∀ {x y : κ}, beq x y = true ↔ x = y) (K : iM P kt kenc beq) (ht : P.underlying t = some (.map kt e))
    (hz : ∀ w, (zeroValue e).run P w = .ok z w) (hq0 : Q z x0 []) (hST : ST dd F w W μ (X ++ (R ++ Y))) (h : eG kenc Q mv lv l R) (hm : aR E m = mv) (hx : aR E x = kenc k)
    (hK : ∀ W' v st R' R1, ST dd F w W' μ (X ++ (R' ++ (R1 ++ Y))) → Q v ((cG beq l k).getD x0) R1 → xW beq kenc Q mv l k st R' → Kk (.tuple #[v, .int .i64 (st : Nat)]) W') : fY P E ⟨d, .mapEntry t m x, ty, pos, af, g⟩ W Kk := by
  obtain ⟨Rm, Rv, rfl, ⟨mb, es, clock, rfl, rfl, h2⟩, h3⟩ := h
  have hb : W.heap[mb]? = some (.map es clock) := (hST.box mb (.map es clock) (by simp)).1
  have h5 : ((getObj mb : Sem Obj)).run P W = .ok (.map es clock) W := by simp [getObj, Sem.run, hb]
  have h6 := K.find k _ _ h2.keys W
  rw [h2.get k] at h6
  have hf := h3.find (beq := beq) k
  have hrun : ∀ W' v, (Instr.mapEntry t (.map (some mb)) (kenc k)).run P W = .ok v W' → (execOp (aR E) ⟨d, .mapEntry t m x, ty, pos, af, g⟩).run P W = .ok (.value v) W' := by
    intro W' v hr
    show (do pure (.value (← Instr.mapEntry t (aR E m) (aR E x))) : Sem Next).run P W = _
    rw [hm, hx]
    simp [hr]
  have hST1 : ST dd F w W μ (X ++ (mb, .map es clock) :: (Rv ++ Y)) := by simpa using hST
  cases hi : lv.findIdx? (fun p => beq k p.1) with
  | none =>
    rw [hi] at h6 hf
    have hput := h2.put (beq := beq) k z
    rw [hi] at hput
    refine .inl ⟨_, ChangeMaps.setBlock W mb (.map (es.push { key := kenc k, val := z, born := clock }) (clock + 1)), hrun _ (.tuple #[z, .int .i64 (clock : Nat)]) ?_, hK _ z clock ((mb, .map (es.push { key := kenc k, val := z, born := clock }) (clock + 1)) :: (Rv ++ [])) [] ?_ ?_ ?_⟩
    · simp [Instr.mapEntry, run_underlying ht, h5, K.check, h6, oU hb, hz _, goInt]
    · have := hST1.setBlock (.map (es.push { key := kenc k, val := z, born := clock }) (clock + 1))
      simpa using this
    · rw [tZ hf.symm]; exact hq0
    · refine ⟨mb, _, _, lv ++ [(k, z)], Rv, [], es.size, { key := kenc k, val := z, born := clock }, rfl, rfl, hput, by simp, rfl, ?_, fun v x R1 hq => ?_⟩
      · rw [List.findIdx?_append, hi]
        have hsz := h2.length
        simp [List.findIdx?_cons, hk, hsz]
      · rw [← mI hi, xm (fun x => hk.2 rfl), mI hi, mI hf.symm]
        simpa using h3.push k hq
  | some i =>
    rw [hi] at h6 hf
    obtain ⟨p, hp, hbq⟩ := kr hi
    obtain ⟨q, hqq, hbq2⟩ := kr hf.symm
    have hkq := hk.1 hbq2
    obtain ⟨v, A, R1, B, g1, rfl, g3, g4⟩ := h3.get i q.1 q.2 hqq
    have hpv : p.2 = v := by rw [g1] at hp; cases hp; rfl
    have hsz := h2.length
    have hil : i < lv.length := (List.getElem?_eq_some_iff.1 hp).1
    obtain ⟨en, hen⟩ : ∃ en, es[i]? = some en := ⟨es[i], Array.getElem?_eq_getElem (by omega)⟩
    obtain ⟨p', hp', hkey', hval'⟩ := h2.val hen
    rw [hp] at hp'
    cases hp'
    simp only [Option.bind_some, hp, Option.map_some] at h6
    have hput := h2.put (beq := beq) k v
    rw [hi] at hput
    have hkey : ((es[i]?).map (·.key)).getD (kenc k) = kenc k := by
      rw [hen]
      simp only [Option.map_some, Option.getD_some, hkey']
      exact K.eq k p.1 hbq
    have hmod : es.modify i (fun e => { e with key := kenc k }) = es.modify i (fun e => { e with key := kenc k, val := v }) := tU fun e he => by
      rw [hen] at he; cases he
      rw [← hpv, ← hval']
    refine .inl ⟨_, ChangeMaps.setBlock W mb (.map (es.modify i fun e => { e with key := kenc k, val := v }) clock), hrun _ (.tuple #[v, .int .i64 (en.born : Nat)]) ?_, hK _ v en.born ((mb, .map (es.modify i fun e => { e with key := kenc k, val := v }) clock) :: (A ++ B)) R1 ?_ ?_ ?_⟩
    · simp only [Instr.mapEntry, Sem.run_bind, run_underlying ht, h5, K.check, h6, Result.andThen_ok, hkey, Instr.keyThatStays, K.bits, if_true, Sem.run_pure]
      rw [oU hb, hmod]
      simp [hen, goInt, hpv]
    · have := hST1.setBlock (.map (es.modify i fun e => { e with key := kenc k, val := v }) clock)
      refine this.perm ?_
      simp only [List.append_assoc, List.cons_append]
      refine List.Perm.append_left _ (List.Perm.cons _ (List.Perm.append_left _ ?_))
      rw [← List.append_assoc, ← List.append_assoc]
      exact List.Perm.append_right _ List.perm_append_comm
    · rw [si hf.symm hqq]; exact g3
    · refine ⟨mb, _, _, lv.set i (k, v), A, B, i, { en with key := kenc k, val := v }, rfl, rfl, hput, ?_, rfl, ?_, fun v2 x2 R2 hq => ?_⟩
      · rw [Array.getElem?_modify, if_pos rfl, hen]; rfl
      · rw [List.findIdx?_eq_some_iff_getElem] at hi ⊢
        obtain ⟨h1, h2, h3⟩ := hi
        refine ⟨by simpa using h1, by simp [hk], fun j hj => ?_⟩
        rw [List.getElem_set_ne (by omega)]
        exact h3 j hj
      · rw [← jI hi, xm (fun x => hk.2 rfl), jI hi, jI hf.symm]
        exact g4 k v2 x2 R2 hq
theorem BS {es : Array MapEntry} (h : es.toList.Pairwise (fun a b => a.born < b.born)) {i : Nat} {e : MapEntry} (he : es[i]? = some e) : es.findIdx? (fun a => (a.born : Int) == (e.born : Int)) = some i := by
  rw [Array.findIdx?_eq_some_iff_getElem]
  obtain ⟨hl, hei⟩ := Array.getElem?_eq_some_iff.1 he
  refine ⟨hl, by rw [hei]; simp, fun j hj => ?_⟩
  have := List.pairwise_iff_getElem.1 h j i (by simpa using Nat.lt_trans hj hl) (by simpa using hl) hj
  simp only [Array.getElem_toList] at this
  rw [hei] at this
  simp
  omega
theorem ye {Kk : Value → World → Prop} (X : List (Nat × Obj)) {Y R R1 : List (Nat × Obj)} {t e : TypeId} {m s y : Operand} {mv u : Value} {z : γ} {l : List (κ × γ)} {k : κ} {st : Nat} (hk : ∀ {x y : κ}, beq x y = true ↔ x = y) (K : iM P kt kenc beq)
    (hST : ST dd F w W μ (X ++ (R ++ (R1 ++ Y)))) (h : xW beq kenc Q mv l k st R) (hm : aR E m = mv) (hs : aR E s = .int .i64 (st : Nat)) (hy : aR E y = u) (hq : Q u z R1)
    (hK : ∀ W' lv' R', ST dd F w W' μ (X ++ (R' ++ Y)) → eG kenc Q mv lv' (gG beq l k z) R' → Kk undef W') : fY P E ⟨d, .entryStore t m s y, ty, pos, af, g⟩ W Kk := by
  obtain ⟨mb, es, clock, lv, A, B, i, en, rfl, rfl, h2, hen, hborn, hi, h3⟩ := h
  have hb : W.heap[mb]? = some (.map es clock) := (hST.box mb (.map es clock) (by simp)).1
  have h5 : ((getObj mb : Sem Obj)).run P W = .ok (.map es clock) W := by simp [getObj, Sem.run, hb]
  obtain ⟨p, hp, hbq⟩ := kr hi
  obtain ⟨p', hp', hkey', hval'⟩ := h2.val hen
  rw [hp] at hp'
  cases hp'
  have hput := h2.put (beq := beq) k u
  rw [hi] at hput
  have hmod : es.modify i (fun e => { e with val := u }) = es.modify i (fun e => { e with key := kenc k, val := u }) := tU fun e he => by
    rw [hen] at he; cases he
    have hen2 : en.key = kenc k := by rw [hkey']; exact K.eq k p.1 hbq
    rw [← hen2]
  have hfi := BS h2.born hen
  rw [hborn] at hfi
  have hST1 : ST dd F w W μ (X ++ (mb, .map es clock) :: (A ++ (B ++ (R1 ++ Y)))) := by simpa using hST
  refine .inr (.inl ⟨ChangeMaps.setBlock W mb (.map (es.modify i fun e => { e with key := kenc k, val := u }) clock), ?_, hK _ (gG beq lv k u) ((mb, .map (es.modify i fun e => { e with key := kenc k, val := u }) clock) :: (A ++ (R1 ++ B))) ?_ ⟨[(mb, .map (es.modify i fun e => { e with key := kenc k, val := u }) clock)], A ++ (R1 ++ B), rfl, ⟨mb, _, _, rfl, rfl, ?_⟩, h3 u z R1 hq⟩⟩)
  · show (do Instr.entryStore t (aR E m) (aR E s) (aR E y); pure .skip : Sem Next).run P W = _
    rw [hm, hs, hy]
    simp only [Instr.entryStore, Sem.run_bind, h5, Result.andThen_ok, asInt, asIntOf, Sem.run_pure, hfi]
    rw [oU hb, hmod]
    rfl
  · have := hST1.setBlock (.map (es.modify i fun e => { e with key := kenc k, val := u }) clock)
    refine this.perm ?_
    simp only [List.append_assoc, List.cons_append]
    refine List.Perm.append_left _ (List.Perm.cons _ (List.Perm.append_left _ ?_))
    rw [← List.append_assoc, ← List.append_assoc]
    exact List.Perm.append_right _ List.perm_append_comm
  · rw [jI hi]; exact hput
end
end Go.Proofs.YtmlncblocfcmiaaGreat
namespace Go.Proofs.YtmlncblocfcmiaaGreat
open Go.RowKit
variable {dd : Bool}
section
variable {κ γ : Type} {Q : Value → γ → List (Nat × Obj) → Prop} {beq : κ → κ → Bool} {kenc : κ → Value}
def dN (kenc : κ → Value) (Q : Value → γ → List (Nat × Obj) → Prop) (v : Value) (l : List (κ × γ)) (R : List (Nat × Obj)) : Prop := ∃ lv, eG kenc Q v lv l R
def lz (kenc : κ → Value) (Q : Value → γ → List (Nat × Obj) → Prop) (μ : aY) (v : Value) (l : List (κ × γ)) : Prop := ∃ lv R, eG kenc Q v lv l R ∧ ∀ b o, (b, o) ∈ R → μ b = some o
theorem dN.at {v : Value} {l : List (κ × γ)} {R : List (Nat × Obj)} {μ : aY} (h : dN kenc Q v l R) (hR : ∀ b o, (b, o) ∈ R → μ b = some o) : lz kenc Q μ v l := let ⟨lv, h⟩ := h; ⟨lv, R, h, hR⟩
theorem lz.mono {v : Value} {l : List (κ × γ)} {μ μ' : aY} (h : lz kenc Q μ v l) (hs : aW μ μ') : lz kenc Q μ' v l := let ⟨lv, R, h, hR⟩ := h; ⟨lv, R, h, fun b o hb => hs _ _ (hR b o hb)⟩
theorem eG.form {v : Value} {lv : List (κ × Value)} {l : List (κ × γ)} {R : List (Nat × Obj)} (h : eG kenc Q v lv l R) : ∃ m, v = .map (some m) := let ⟨_, _, _, h, _⟩ := h; h.form
theorem eG.e {v : Value} {lv : List (κ × Value)} {l : List (κ × γ)} {R : List (Nat × Obj)} (h : eG kenc Q v lv l R) : dN kenc Q v l R := ⟨lv, h⟩
theorem dN.form {v : Value} {l : List (κ × γ)} {R : List (Nat × Obj)} (h : dN kenc Q v l R) : ∃ m, v = .map (some m) := let ⟨_, h⟩ := h; h.form
theorem dN.new {v : Value} {R : List (Nat × Obj)} (h : dK (β := Value) kenc (fun x => x) v [] R) : dN kenc Q v [] R := ⟨[], R, [], (List.append_nil R).symm, h, rfl⟩
theorem eG.rowAt {α : Type} {e : TypeId} {enc : α → List Value} {n : Nat} {mv : Value} {lv : List (κ × Value)} {l : List (κ × List α)} {R : List (Nat × Obj)} (hk : ∀ {x y : κ}, beq x y = true → x = y) (h : eG kenc (bE e enc n) mv lv l R) (k : κ) :
    ∃ R1, bE e enc n (jT beq lv k (.slice none 0 0)) ((cG beq l k).getD []) R1 ∧ ∀ b o, (b, o) ∈ R1 → (b, o) ∈ R := by
  cases hx : cG beq l k with
  | none => refine ⟨[], ?_, fun b o h => by cases h⟩; rw [jT, h.miss hx]; exact .inl ⟨rfl, rfl, rfl⟩
  | some x =>
    obtain ⟨v, A, R1, B, g1, rfl, g3, _⟩ := h.found hk hx
    refine ⟨R1, ?_, fun b o hb => by simp [hb]⟩
    rw [jT, g1]; exact g3
theorem bE.slL {α : Type} {e : TypeId} {enc : α → List Value} {k : Nat} {v : Value} {l : List α} {R : List (Nat × Obj)} (h : bE e enc k v l R) (hk : ∀ x, (enc x).length = k) : Sl (Pl enc) k (pM R) v l := by
  refine h.sl hk (fun b o hb => ?_)
  rcases h with ⟨rfl, rfl, rfl⟩ | ⟨g, cap, cur, rfl, rfl, _⟩
  · cases hb
  · simp at hb; obtain ⟨rfl, rfl⟩ := hb; simp [pM]
end
theorem gD.hp (W : World) : gD (hp W) [] W := ⟨fun _ _ h => h, fun _ _ h => by cases h⟩
section
variable {P : Program} {W : World} {E : Nat → Value} {d : Option Nat} {ty : TypeId} {pos : String} {af : Array Edge} {g : Option (Nat × Bool)} {F : Nat → Prop} {w : World} {μ : aY} {L : List (Nat × Obj)}
theorem wk {t k e : TypeId} (dd : Nat) (ht : P.underlying t = some (.map k e)) (a : Option Nat) (W : World) : (Op.equalIn (dd + 1) t (.map a) (.map none)).run P W = .ok a.isNone W := by
  cases a <;> simp [Op.equalIn, run_underlying ht]
theorem AE {tx tv k e : TypeId} {x y : Operand} {r : Option Nat} {b : Bool} (ht : P.underlying tx = some (.map k e)) (hx : aR E x = .map r) (hy : aR E y = .map none) (hb : r.isNone = b) :
    dT P E ⟨d, .binOp .eql tx x y tv, ty, pos, af, g⟩ W (.bool b) W := by
  subst hb
  show (do let r ← (do eqGuard .eql tx x y (aR E x) (aR E y); binOp .eql tx (aR E x) (aR E y)); pure (.value r) : Sem Next).run P W = _
  rw [hx, hy]
  have h0 := wk 9999 ht r W
  simp [eqGuard, binOp, Op.equal, show Op.maxDepth = 9999 + 1 from rfl, h0]
theorem zr {κ κ2 β : Type} {kenc : κ → Value} {kenc2 : κ2 → Value} {vf : β → Value} {beq : κ → κ → Bool} {tx tv kt e : TypeId} {x y : Operand} {mv : Value} {lv : List (κ × Value)} {l : List (κ × List (κ2 × β))} {R : List (Nat × Obj)} {k : κ} (hk : ∀ {x y : κ}, beq x y = true → x = y)
    (ht : P.underlying tx = some (.map kt e)) (h : eG kenc (dK kenc2 vf) mv lv l R) (hx : aR E x = jT beq lv k (.map none)) (hy : aR E y = .map none) :
    dT P E ⟨d, .binOp .eql tx x y tv, ty, pos, af, g⟩ W (.bool (cG beq l k).isNone) W := by
  obtain ⟨r, h1, h2⟩ := h.isNil hk k
  exact AE ht (hx.trans h1) hy h2
theorem rZ {κ γ : Type} {Kk : Value → World → Prop} {t : TypeId} (kenc : κ → Value) (Q : Value → γ → List (Nat × Obj) → Prop) (hST : ST dd F w W μ L) (hK : ∀ W' v R, ST dd F w W' μ (R ++ L) → dN kenc Q v [] R → Kk v W') : fY P E ⟨d, .makeMap t none, ty, pos, af, g⟩ W Kk :=
  xw kenc (fun x : Value => x) hST (fun W' v R h1 h2 => hK W' v R h1 (dN.new h2))
end
def jv {α : Type} (e : TypeId) (enc : α → List Value) (k : Nat) (v : Value) (l : List α) (R : List (Nat × Obj)) : Prop :=
  (v = .slice none 0 0 ∧ l = [] ∧ R = []) ∨
  ∃ g off cap cur, v = .slice (some ⟨g, off, none⟩) l.length cap ∧ R = [(g, .cells cur e (0, 0))] ∧ l.length ≤ cap ∧ cap ≤ maxLen ∧ off + cap * k ≤ cur.size ∧ (cur.toList.drop off).take (l.length * k) = (l.map enc).flatten
section
variable {α : Type} {e : TypeId} {enc : α → List Value} {k : Nat} {v : Value} {l : List α} {R : List (Nat × Obj)}
theorem jv.nil (e : TypeId) (enc : α → List Value) (k : Nat) : jv e enc k (.slice none 0 0) [] [] := .inl ⟨rfl, rfl, rfl⟩
theorem bE.que (h : bE e enc k v l R) : jv e enc k v l R := by
  rcases h with h | ⟨g, cap, cur, h1, h2, h3, h4, h5, h6⟩
  · exact .inl h
  · exact .inr ⟨g, 0, cap, cur, h1, h2, h3, h4, by omega, by simpa using h6⟩
theorem jv.len (h : jv e enc k v l R) : l.length ≤ 9223372036854775807 := by
  rcases h with ⟨rfl, rfl, rfl⟩ | ⟨g, off, cap, cur, rfl, rfl, h1, h2, _⟩
  · simp
  · unfold maxLen at h2; omega
theorem jv.form (h : jv e enc k v l R) : ∃ A c, v = .slice A l.length c := by
  rcases h with ⟨rfl, rfl, rfl⟩ | ⟨g, off, cap, cur, rfl, rfl, _⟩
  · exact ⟨_, _, rfl⟩
  · exact ⟨_, _, rfl⟩
theorem jv.slL (h : jv e enc k v l R) (hk : ∀ x, (enc x).length = k) : Sl (Pl enc) k (pM R) v l := by
  rcases h with ⟨rfl, rfl, rfl⟩ | ⟨g, off, cap, cur, rfl, rfl, h1, h2, h3, h4⟩
  · exact Sl.nil _ _ _
  · refine ⟨_, cap, rfl, h1, h2, fun _ => ⟨g, off, cur, e, (0, 0), rfl, by simp [pM], fun i x hx => ⟨enc x, hk x, rfl, fun j y hy => ?_⟩⟩⟩
    have := nC hk l i x hx j y hy
    rw [← h4] at this
    have hlt : i * k + j < l.length * k := by
      have := (List.getElem?_eq_some_iff.1 this).1
      simp at this; omega
    rw [List.getElem?_take_of_lt hlt, List.getElem?_drop] at this
    simpa [Nat.add_assoc] using this
variable {P : Program} {W : World} {E : Nat → Value} {d : Option Nat} {ty : TypeId} {pos : String} {af : Array Edge} {g : Option (Nat × Bool)} {F : Nat → Prop} {w : World} {μ : aY} {L : List (Nat × Obj)}
theorem CE {x : Operand} {t e2 : TypeId} (ht : P.underlying t = some (.slice e2)) (hx : aR E x = v) (h : jv e enc k v l R) : dT P E ⟨d, .call ⟨.builtin .len, #[x], #[t]⟩, ty, pos, af, g⟩ W (.int .i64 l.length) W := by
  obtain ⟨A, c, rfl⟩ := h.form
  exact qg ht hx
theorem AF {t e2 : TypeId} {x il : Operand} {ik : IntKind} {i : Int} (ht : P.underlying t = some (.slice e2)) (he : ∀ w, (sizeOf e2).run P w = .ok k w) (hx : aR E x = v) (hi : aR E il = .int ik i) (hk : ∀ x, (enc x).length = k) (h : jv e enc k v l R) (h0 : 0 ≤ i) (hl : i ≤ l.length) :
    ∃ u, jv e enc k u (l.drop i.toNat) R ∧ ∀ W, dT P E ⟨d, .slice t x (some il) none none, ty, pos, af, g⟩ W u W := by
  rcases h with ⟨rfl, rfl, rfl⟩ | ⟨g', off, cap, cur, rfl, rfl, h1, h2, h3, h4⟩
  · have : i = 0 := by simp at hl; omega
    subst this
    refine ⟨.slice none 0 0, by simpa using jv.nil e enc k, fun W => ?_⟩
    show (do pure (.value (← Instr.sliceAt t (aR E x) (some (aR E il)) none none)) : Sem Next).run P W = _
    rw [hx, hi]
    simp [Instr.sliceAt, Instr.slice, Instr.sliceBounds, Instr.sliceBound, asIntOf, run_underlying ht, he W]
  · refine ⟨.slice (some (if cap = i.toNat then ⟨g', off, none⟩ else (Addr.add ⟨g', off, none⟩ (i.toNat * k)))) (l.length - i.toNat) (cap - i.toNat), .inr ?_, fun W => ?_⟩
    · have hll : (l.drop i.toNat).length = l.length - i.toNat := by simp
      have hmap : (l.map enc).flatten.drop (i.toNat * k) = ((l.drop i.toNat).map enc).flatten := by
        have h5 : l = l.take i.toNat ++ l.drop i.toNat := (List.take_append_drop _ _).symm
        have h6 : ((l.take i.toNat).map enc).flatten.length = i.toNat * k := by rw [iZ hk, List.length_take, Nat.min_eq_left (by omega)]
        conv => lhs; rw [h5, List.map_append, List.flatten_append]
        rw [← h6, List.drop_left]
      by_cases hc : cap = i.toNat
      · rw [if_pos hc]
        have hn : l.drop i.toNat = [] := List.drop_eq_nil_of_le (by omega)
        refine ⟨g', off, cap - i.toNat, cur, by rw [hn]; simp; omega, rfl, by rw [hn]; simp, by omega, by have : (cap - i.toNat) * k ≤ cap * k := Nat.mul_le_mul_right _ (by omega); omega, by rw [hn]; simp⟩
      · rw [if_neg hc]
        refine ⟨g', off + i.toNat * k, cap - i.toNat, cur, by rw [hll, Addr.add_lit], rfl, by rw [hll]; omega, by omega, ?_, ?_⟩
        · have : i.toNat * k + (cap - i.toNat) * k = cap * k := by rw [← Nat.add_mul]; congr 1; omega
          omega
        · rw [hll, ← hmap, ← h4, List.drop_take, List.drop_drop, Nat.sub_mul]
    · show (do pure (.value (← Instr.sliceAt t (aR E x) (some (aR E il)) none none)) : Sem Next).run P W = _
      rw [hx, hi]
      have hb : 0 ≤ i ∧ i ≤ (l.length : Int) := ⟨h0, hl⟩
      simp [Instr.sliceAt, Instr.slice, Instr.sliceBounds, Instr.sliceBound, asIntOf, run_underlying ht, he W, hb]
      split <;> rfl
theorem zo {K : Value → World → Prop} {t : TypeId} {by_ : Nat} {z vs : Value} {m r : List α} (X : List (Nat × Obj)) {Y : List (Nat × Obj)} {x y : Operand} {i : TypeInfo}
    (hST : ST dd F w W μ (X ++ (R ++ Y))) (hk : ∀ x, (enc x).length = k) (hk0 : 0 < k) (h1 : ∀ x, ∀ u ∈ enc x, u.oneCell' = true) (ht : P.underlying t = some (.slice e)) (hi : P.info? e = some i) (hz : i.zero = some z) (hzs : z.cells.size = k) (hsz : i.size = k) (hby : i.bytes = by_)
    (hx : aR E x = v) (hy : aR E y = vs) (hR : jv e enc k v l R) (hs : Sl (Pl enc) k (hp W) vs m) (hb : gT by_ l m = some r)
    (h : ∀ W' v' R', ST dd F w W' μ (X ++ (R' ++ Y)) → jv e enc k v' r R' → K v' W') : fY P E ⟨d, .call ⟨.builtin .append, #[x, y], #[t, t]⟩, ty, pos, af, g⟩ W K := by
  rcases hR with ⟨rfl, rfl, rfl⟩ | ⟨g', off, cap, cur, rfl, rfl, h2, h3, h4, h5⟩
  · exact yK X hST hk hk0 h1 ht hi hz hzs hsz hby hx hy (bE.nil e enc k) hs hb (fun W' v' R' a b => h W' v' R' a b.que)
  unfold gT at hb
  split at hb
  case isFalse => cases hb
  rename_i hbb
  cases hb
  have hrun : ∀ (V : Value) (W' : World), (Builtin.append_ #[t, t] ty #[.slice (some ⟨g', off, none⟩) l.length cap, vs]).run P W = .ok V W' → (execOp (aR E) ⟨d, .call ⟨.builtin .append, #[x, y], #[t, t]⟩, ty, pos, af, g⟩).run P W = .ok (.value V) W' := by
    intro V W' hV
    show (do let d ← resolve (aR E) ⟨.builtin .append, #[x, y], #[t, t]⟩ ty; invoke d.target d.args : Sem Next).run P W = _
    simp [resolve, invoke, builtin, hx, hy, hV]
  obtain ⟨A, c, rfl, hc1, hc2, hc3⟩ := hs
  have hST0 : ST dd F w W μ (X ++ (g', .cells cur e (0, 0)) :: Y) := by simpa using hST
  have hg : W.heap[g']? = some (.cells cur e (0, 0)) := (hST0.box g' _ (by simp)).1
  have hfl := iZ hk l
  have hone : ∀ u ∈ (m.map enc).flatten, u.oneCell' = true := by
    intro u hu
    obtain ⟨ys, hys, hu'⟩ := List.mem_flatten.1 hu
    obtain ⟨x, _, rfl⟩ := List.mem_map.1 hys
    exact h1 x u hu'
  have hsrc : Src P i.size t (.slice A m.length c) m.length ((m.map enc).flatten) W := by
    rw [hsz]
    rcases Nat.eq_zero_or_pos m.length with h0 | h0
    · have hm : m = [] := List.eq_nil_of_length_eq_zero h0
      subst hm
      cases A with
      | none => exact Src.ofNil W ht c
      | some ad => exact Src.ofSlice W ht ad 0 c [] (by simp) (fun j u hu => by simp at hu) (fun u hu => by cases hu)
    · obtain ⟨b, o, cs, T, fr, rfl, h6, h7⟩ := hc3 h0
      refine Src.ofSlice W ht _ _ c _ (iZ hk m) (fun j u hu => ?_) hone
      obtain ⟨i, x, q, h8, h9, rfl⟩ := vo hk m j u hu
      obtain ⟨ys, _, h11, h12⟩ := h7 i x h8
      cases h11
      rw [Addr.add_lit, cell_of_row W b (o + (i * k + q)) cs T fr h6, ← Nat.add_assoc]
      exact h12 q u h9
  have hfml := iZ hk m
  have hfin : ((l ++ m).map enc).flatten = (l.map enc).flatten ++ (m.map enc).flatten := by simp
  generalize (m.map enc).flatten = fm at hsrc hone hfml hfin
  subst hsz
  have hlk : l.length * i.size ≤ cap * i.size := Nat.mul_le_mul_right _ h2
  by_cases hroom : l.length + m.length ≤ cap
  · have hmk : l.length * i.size + m.length * i.size ≤ cap * i.size := by rw [← Nat.add_mul]; exact Nat.mul_le_mul_right _ hroom
    have hst := run_storeCells_at (P := P) g' (off + l.length * i.size) e fm 0 cur W hg (by rw [hfml]; omega) hone
    have happ : (Builtin.append_ #[t, t] ty #[.slice (some ⟨g', off, none⟩) l.length cap, .slice A m.length c]).run P W = .ok (.slice (some ⟨g', off, none⟩) (l.length + m.length) cap) (W.setRow g' (cur.toList.take (off + l.length * i.size) ++ fm ++ cur.toList.drop (off + l.length * i.size + fm.length)).toArray) := by
      simp [Builtin.append_, run_underlying ht, sizeOf, typeInfo, hi, hsrc.len, hroom, hsrc.cells, Addr.add_lit]
      simp only [Nat.add_zero] at hst
      rw [hst]
      simp
    refine .inl ⟨_, _, hrun _ _ happ, h _ _ [(g', _)] (by simpa using hST0.store _) (.inr ⟨g', off, cap, _, by rw [List.length_append], rfl, by simpa using hroom, h3, ?_, ?_⟩)⟩
    · simp only [List.size_toArray, List.length_append, List.length_take, List.length_drop, Array.length_toList, hfml]
      rw [Nat.min_eq_left (by omega)]
      omega
    · have hA : (cur.toList.take (off + l.length * i.size)).length = off + l.length * i.size := by simp; omega
      show ((cur.toList.take (off + l.length * i.size) ++ (fm ++ cur.toList.drop (off + l.length * i.size + fm.length))).drop off).take ((l ++ m).length * i.size) = _
      rw [hfin, List.drop_append, List.drop_take, hA, show off - (off + l.length * i.size) = 0 by omega, List.drop_zero, show off + l.length * i.size - off = l.length * i.size by omega, h5]
      rw [List.length_append, Nat.add_mul, List.take_append, List.take_append, hfl, hfml, List.take_of_length_le (by rw [hfl]; omega), show l.length * i.size + m.length * i.size - l.length * i.size = m.length * i.size by omega, List.take_of_length_le (by rw [hfml]; omega)]
      simp
  · have hold : (Builtin.firstCells i.size l.length (.slice (some ⟨g', off, none⟩) l.length cap)).run P W.drew = .ok ((l.map enc).flatten).toArray W.drew := by
      refine run_firstCells_some W.drew i.size l.length ⟨g', off, none⟩ l.length cap _ hfl (fun j u hu => ?_)
      rw [Addr.add_lit]
      show W.cell? ⟨g', off + j, none⟩ = some u
      rw [cell_of_row W g' (off + j) cur e (0, 0) hg]
      rw [← h5] at hu
      have hj : j < l.length * i.size := by have := (List.getElem?_eq_some_iff.1 hu).1; simp at this; omega
      rw [List.getElem?_take_of_lt hj, List.getElem?_drop] at hu
      simpa using hu
    have hlen : (l ++ m).length = l.length + m.length := List.length_append
    have hge := grownCap_ge W (l.length + m.length) cap e
    have hcm := grownCap_le_maxLen W (l.length + m.length) cap e hbb.2
    have happ := run_append_grow_src (P := P) W t t ty e i z ht hi hz (some ⟨g', off, none⟩) l.length cap ((l.map enc).flatten) hold _ m.length _ hsrc (by omega) (by have := hbb.2; unfold maxLen at this; omega) (growslice_fits (by omega) (by rw [hby]; exact hbb.1))
    have h6 := hST0.drew.alloc (.cells (((l.map enc).flatten ++ fm).toArray ++ Builtin.zeroCells z.cells (grownCap W (l.length + m.length) cap e - (l.length + m.length))) e (0, 0))
    have h7 := (ST.drop (A := (W.drew.heap.size, _) :: X) h6).perm (L' := X ++ ([(W.heap.size, _)] ++ Y)) (by simpa using (List.perm_middle (a := (W.heap.size, _)) (l₁ := X) (l₂ := Y)).symm)
    refine .inl ⟨_, _, hrun _ _ happ, h _ _ _ h7 (bE.que (.inr ⟨W.heap.size, grownCap W (l.length + m.length) cap e, _, by rw [hlen], rfl, by rw [hlen]; exact hge, hcm, ?_, ?_⟩))⟩
    · rw [Array.size_append, size_zeroCells, hzs]
      simp only [List.size_toArray, List.length_append, hfl, hfml]
      rw [← Nat.add_mul, ← Nat.add_mul]
      congr 1
      omega
    · rw [Array.toList_append, List.toList_toArray, hlen, hfin, List.take_append_of_le_length (by simp only [List.length_append, hfl, hfml]; rw [Nat.add_mul]; exact Nat.le_refl _), List.take_of_length_le (by simp only [List.length_append, hfl, hfml]; rw [Nat.add_mul]; exact Nat.le_refl _)]
end
end Go.Proofs.YtmlncblocfcmiaaGreat
namespace Go.Proofs.YtmlncblocfcmiaaGreat
open Go.RowKit
section
variable {P : Program} {ops : Array Oper} {Q : Exit → Act → World → Prop} {S : Array Bool → World → Prop}
def nX (ops : Array Oper) (l : Array Bool) : Prop := ∀ j o, ops[j]? = some o → l.getD j true = true → ∀ e ∈ o.after, Region.binds .any e = true → l.getD e.on true = true
def vQ (ops : Array Oper) : Nat → List Nat → Bool
  | _, [] => true
  | j, k :: r => (match ops[j]? with | some o => o.after.any (fun e => Region.binds .any e && e.on == k) | none => false) && vQ ops k r
theorem wl {l : Array Bool} (hc : nX ops l) : ∀ (r : List Nat) (j i : Nat), vQ ops j r = true → (j :: r).getLast? = some i → l.getD j true = true → l.getD i true = true
  | [], j, i, _, h, hj => by simp at h; subst h; exact hj
  | k :: r, j, i, h, hl, hj => by
    simp only [vQ, Bool.and_eq_true] at h
    obtain ⟨h1, h2⟩ := h
    cases ho : ops[j]? with
    | none => rw [ho] at h1; cases h1
    | some o =>
      rw [ho] at h1
      simp only [Array.any_eq_true] at h1
      obtain ⟨n, hn, h1⟩ := h1
      simp only [Bool.and_eq_true, beq_iff_eq] at h1
      have := hc j o ho hj o.after[n] (Array.getElem_mem hn) h1.1
      rw [h1.2] at this
      exact wl hc r k i h2 (by simpa [List.getLast?_cons_cons] using hl) this
def ve (ops : Array Oper) (i : Nat) (l : Array Bool) : Prop := nX ops l ∧ l.getD i true = false
theorem ve.bar {l : Array Bool} {i : Nat} (h : ve ops i l) (j : Nat) (r : List Nat) (hc : vQ ops j r = true) (hl : (j :: r).getLast? = some i) : l.getD j true = false := by
  cases hj : l.getD j true with
  | false => rfl
  | true => have := wl h.1 r j i hc hl hj; rw [h.2] at this; cases this
theorem nX.start (n : Nat) (h : n = ops.size) : nX ops (Array.replicate n false) := by
  subst h
  intro j o ho hj
  have hlt : j < ops.size := (Array.getElem?_eq_some_iff.1 ho).1
  simp [hlt] at hj
theorem nX.set {l : Array Bool} {i : Nat} (h : nX ops l) (hr : i ∈ Region.ready .any ops l) : nX ops (l.setIfInBounds i true) := by
  intro j o ho hj e he hb
  have up : ∀ {k : Nat}, l.getD k true = true → (l.setIfInBounds i true).getD k true = true := fun {k} hk => by
    by_cases hik : i = k
    · subst hik
      by_cases hs : i < l.size
      · simp [hs]
      · simp [hs]
    · rw [getD_set_ne true hik]; exact hk
  by_cases hij : i = j
  · subst hij
    obtain ⟨_, o', ho', hall⟩ := mem_ready.1 hr
    rw [ho] at ho'
    cases ho'
    refine up ?_
    have := hall e he hb
    by_cases hs : e.on < l.size
    · simp [hs] at this ⊢; exact this
    · simp [hs]
  · rw [getD_set_ne true hij] at hj
    exact up (h j o ho hj e he hb)
def ry (P : Program) (ops : Array Oper) (S : Array Bool → World → Prop) (i : Nat) (o : Oper) (v : Value) (a : Act) : Prop :=
  (Region.wanted o (yielded ops a.tmps) = true ∧ ∀ l w, ve ops i l → S l w → (execOp a.eval o).run P w = .ok (.value v) w) ∨
  (Region.wanted o (yielded ops a.tmps) = false ∧ v = undef)
theorem ry.if_ {i : Nat} {o : Oper} {v : Value} {a : Act} {l : Array Bool} (h : ry P ops S i o v a) (hp : ve ops i l) : YieldsIf P ops (S l) o v a :=
  h.imp (fun ⟨h1, h2⟩ => ⟨h1, fun w hw => h2 l w hp hw⟩) id
def zU (P : Program) (ops : Array Oper) (Q : Exit → Act → World → Prop) (S : Array Bool → World → Prop) : Nat → Array Bool → Act → World → Prop
  | 0, l, a, w => Region.ready .any ops l = [] ∧ Q .normal a w
  | n + 1, l, a, w => (Region.ready .any ops l = [] → Q .normal a w) ∧
    ∀ i ∈ Region.ready .any ops l, wpOp P ops Q i (fun a' w' => S (l.setIfInBounds i true) w' ∧ zU P ops Q S n (l.setIfInBounds i true) a' w') a w
theorem zI : ∀ (n : Nat) (l : Array Bool) (a : Act) (w : World), zU P ops Q S n l a w → wpAny P .any ops Q n l a w
  | 0, _, _, _, h => h
  | n + 1, _, _, _, h => ⟨h.1, fun i hi => wpOp_mono (fun a' w' h' => zI n _ a' w' h'.2) (h.2 i hi)⟩
theorem Bx {i j : Nat} {oi oj : Oper} {v : Value} (hj : ops[j]? = some oj) (hap : oi.apart ops oj = true) (hsi : ∀ cs b, oi.op ≠ .select cs b) (hsj : ∀ cs b, oj.op ≠ .select cs b)
    (hQ : ∀ c a w, Q (.panic c) (a.put oi.dst v) w → Q (.panic c) a w) {K : Act → World → Prop} {a : Act} {w : World} (hy : ry P ops S i oi v a) (h : wpOp P ops Q j K (a.put oi.dst v) w) :
    wpOp P ops Q j (fun a' w' => ry P ops S i oi v a' ∧ K (a'.put oi.dst v) w') a w := by
  have h1 : YieldsIf P ops (fun w => ∃ l, ve ops i l ∧ S l w) oi v a := hy.imp (fun ⟨h1, h2⟩ => ⟨h1, fun w ⟨l, hp, hw⟩ => h2 l w hp hw⟩) id
  refine wpOp_mono (fun a' w' h' => ⟨h'.1.imp (fun ⟨h1, h2⟩ => ⟨h1, fun l w hp hw => h2 w ⟨l, hp, hw⟩⟩) id, h'.2⟩) (wpOp_putIf (S := fun w => ∃ l, ve ops i l ∧ S l w) hj hap hsi hsj hQ h1 h)
theorem xC {i : Nat} {oi : Oper} {v : Value} (hi : ops[i]? = some oi) (hsel : ∀ (j : Nat) (o : Oper) cs b, ops[j]? = some o → o.op ≠ .select cs b) (hQ : ∀ c a w, Q (.panic c) (a.put oi.dst v) w → Q (.panic c) a w)
    (hm : ∀ l w, S (l.setIfInBounds i true) w → S l w) :
    ∀ (n : Nat) (l : Array Bool) (a : Act) (w : World), (∀ j oj, ops[j]? = some oj → j ≠ i → l.getD j true = false → (∀ e ∈ oj.after, Region.binds .any e = true → e.on ≠ i) → oi.apart ops oj = true) →
      nX ops l → i ∈ Region.ready .any ops l → ry P ops S i oi v a → S (l.setIfInBounds i true) w → zU P ops Q S n (l.setIfInBounds i true) (a.put oi.dst v) w → zU P ops Q S (n + 1) l a w := by
  intro n
  induction n with
  | zero =>
    intro l a w _ hc hr hy hS H
    refine ⟨fun h => (by rw [h] at hr; cases hr), fun j hj => ?_⟩
    by_cases hji : j = i
    · subst hji
      exact (hy.if_ ⟨hc, (mem_ready.1 hr).1⟩).wpOp hi (hm l w hS) ⟨hS, H⟩
    · have := ready_mono hj hji
      rw [H.1] at this
      cases this
  | succ n ih =>
    intro l a w hfree hc hr hy hS H
    refine ⟨fun h => (by rw [h] at hr; cases hr), fun j hj => ?_⟩
    by_cases hji : j = i
    · subst hji
      exact (hy.if_ ⟨hc, (mem_ready.1 hr).1⟩).wpOp hi (hm l w hS) ⟨hS, H⟩
    have h1 := H.2 j (ready_mono hj hji)
    obtain ⟨hjun, oj, hoj, hall⟩ := mem_ready.1 hj
    have hnot : ∀ e ∈ oj.after, Region.binds .any e = true → e.on ≠ i := fun e he hb heq => by
      have h2 := hall e he hb
      have h0 := (mem_ready.1 hr).1
      rw [heq] at h2
      rcases Nat.lt_or_ge i l.size with h' | h'
      · simp [h'] at h0 h2; rw [h0] at h2; cases h2
      · simp [Array.getElem?_eq_none h'] at h2
    have h2 := Bx hoj (hfree j oj hoj hji hjun hnot) (fun cs b => hsel i oi cs b hi) (fun cs b => hsel j oj cs b hoj) hQ hy h1
    have hfree' : ∀ k ok, ops[k]? = some ok → k ≠ i → (l.setIfInBounds j true).getD k true = false → (∀ e ∈ ok.after, Region.binds .any e = true → e.on ≠ i) → oi.apart ops ok = true := fun k ok hk hki hun hno => by
      refine hfree k ok hk hki ?_ hno
      by_cases hjk : j = k
      · subst hjk; exact hjun
      · rw [getD_set_ne true hjk] at hun; exact hun
    have hcomm : (l.setIfInBounds i true).setIfInBounds j true = (l.setIfInBounds j true).setIfInBounds i true := Array.setIfInBounds_comm _ _ (Ne.symm hji)
    refine wpOp_mono (fun a' w' h3 => ?_) h2
    have h4 : S ((l.setIfInBounds j true).setIfInBounds i true) w' := by rw [← hcomm]; exact h3.2.1
    refine ⟨hm _ w' h4, ih (l.setIfInBounds j true) a' w' hfree' (hc.set hj) (ready_mono hr (Ne.symm hji)) h3.1 h4 ?_⟩
    rw [← hcomm]
    exact h3.2.2
end
def PX (P : Program) (n : Nat) (ops : Array Oper) (Q : kA) (S : Array Bool → World → Prop) (fuel : Nat) (listed : Array Bool) (E : Nat → Value) (W : World) : Prop :=
  nX ops listed → ∀ a, Ag n a E → zU P ops (lift n Q) S fuel listed a W
section
variable {P : Program} {n : Nat} {Q : kA} {E : Nat → Value} {W : World} {ops : Array Oper} {S : Array Bool → World → Prop} {fuel : Nat} {listed : Array Bool}
theorem zb {id : Nat} {l : List Oper} (S : Array Bool → World → Prop) (hm : P.follows .mixedOrders = true) (h : PX P n l.toArray Q S l.length (Array.replicate l.length false) E W.drew) : CW P n (.region id l.toArray true) Q E W := fun a ha =>
  wp_region_any hm (zI _ _ _ _ (h (nX.start _ (by simp)) a ha))
def sT (ops : Array Oper) (listed : Array Bool) (i : Nat) : Bool := Region.noSelect ops && Region.free .any ops listed i && (Region.ready .any ops listed).contains i
theorem cE {o : Oper} {dd : Nat} {v : Value} (i : Nat) (hi : ops[i]? = some o) (hk : sT ops listed i = true) (hw : kJ n ops E o) (hd : o.dst = some dd) (hn : dd < n) (hm : ∀ l w, S (l.setIfInBounds i true) w → S l w) (hS : S (listed.setIfInBounds i true) W)
    (hy : ∀ l W, ve ops i l → S l W → dT P E o W v W) (h : PX P n ops Q S fuel (listed.setIfInBounds i true) (jZ E dd v) W) : PX P n ops Q S (fuel + 1) listed E W := fun hc a ha => by
  simp only [sT, Bool.and_eq_true] at hk
  have hr : i ∈ Region.ready .any ops listed := by simpa using hk.2
  exact xC hi (Region.noSelect_spec hk.1.1) (fun _ _ _ h => h) hm fuel listed a W (Region.free_spec hi hk.1.2) hc hr (.inl ⟨hw.of ha, fun l w hp hw' => by rw [ha.eval]; exact hy l w hp hw'⟩) hS (by rw [hd]; exact h (hc.set hr) _ (ha.put hn v))
theorem mA {A : Value → Prop} {o : Oper} {dd : Nat} (i : Nat) (hi : ops[i]? = some o) (hk : sT ops listed i = true) (hw : kJ n ops E o) (hd : o.dst = some dd) (hn : dd < n) (hm : ∀ l w, S (l.setIfInBounds i true) w → S l w) (hS : S (listed.setIfInBounds i true) W)
    (hy : ∃ p, A p ∧ ∀ W, dT P E o W p W) (h : ∀ p, A p → PX P n ops Q S fuel (listed.setIfInBounds i true) (jZ E dd p) W) : PX P n ops Q S (fuel + 1) listed E W := by
  obtain ⟨p, h1, h2⟩ := hy
  exact cE i hi hk hw hd hn hm hS (fun _ W _ _ => h2 W) (h p h1)
theorem D4 {o : Oper} {dd : Nat} (i : Nat) (hi : ops[i]? = some o) (hk : sT ops listed i = true) (hw : ∀ a, Ag n a E → Region.wanted o (yielded ops a.tmps) = false) (hd : o.dst = some dd) (hn : dd < n) (hm : ∀ l w, S (l.setIfInBounds i true) w → S l w) (hS : S (listed.setIfInBounds i true) W)
    (h : PX P n ops Q S fuel (listed.setIfInBounds i true) (jZ E dd undef) W) : PX P n ops Q S (fuel + 1) listed E W := fun hc a ha => by
  simp only [sT, Bool.and_eq_true] at hk
  have hr : i ∈ Region.ready .any ops listed := by simpa using hk.2
  exact xC hi (Region.noSelect_spec hk.1.1) (fun _ _ _ h => h) hm fuel listed a W (Region.free_spec hi hk.1.2) hc hr (.inr ⟨hw a ha, rfl⟩) hS (by rw [hd]; exact h (hc.set hr) _ (ha.put hn _))
theorem Fi {o : Oper} {dd j t : Nat} {want : Bool} (i : Nat) (hi : ops[i]? = some o) (hk : sT ops listed i = true) (hg : o.guard = some (j, want)) (hj : (ops[j]?).bind (·.dst) = some t) (ht : t < n) (hE : E t = .bool (!want)) (hd : o.dst = some dd) (hn : dd < n)
    (hm : ∀ l w, S (l.setIfInBounds i true) w → S l w) (hS : S (listed.setIfInBounds i true) W) (h : PX P n ops Q S fuel (listed.setIfInBounds i true) (jZ E dd undef) W) : PX P n ops Q S (fuel + 1) listed E W :=
  D4 i hi hk (fun a ha => by have hy := ha.yield hj ht hE; simp [Region.wanted, hg, hy]) hd hn hm hS h
theorem Ea {o : Oper} {dd : Nat} (i : Nat) (hi : ops[i]? = some o) (hr : Region.ready .any ops listed = [i]) (hw : kJ n ops E o) (hd : o.dst = some dd) (hn : dd < n)
    (h : fY P E o W fun v W' => S (listed.setIfInBounds i true) W' ∧ PX P n ops Q S fuel (listed.setIfInBounds i true) (jZ E dd v) W') : PX P n ops Q S (fuel + 1) listed E W := fun hc a ha => by
  have hmem : i ∈ Region.ready .any ops listed := by rw [hr]; simp
  refine ⟨fun h0 => (by rw [h0] at hr; cases hr), fun j hj => ?_⟩
  rw [hr] at hj
  obtain rfl := List.mem_singleton.1 hj
  unfold wpOp
  simp only [hi]
  rw [if_pos (hw.of ha)]
  refine .inl ?_
  unfold Oper.wp
  rw [ha.eval]
  rcases h with ⟨v, W', h1, h2⟩ | ⟨W', h1, h2⟩ | ⟨f, args, h1, h2⟩
  · rw [h1, Oper.upon_value]; exact ⟨h2.1, by rw [hd]; exact h2.2 (hc.set hmem) _ (ha.put hn v)⟩
  · rw [h1, Oper.upon_skip]; exact ⟨h2.1, by rw [hd]; exact h2.2 (hc.set hmem) _ (ha.put hn _)⟩
  · rw [h1, Oper.upon_enter]
    refine Calls.mono h2 ?_
    rintro e w' ⟨v, rfl, hl⟩
    exact ⟨hl.1, by simp only [hd]; exact hl.2 (hc.set hmem) _ (ha.put hn v)⟩
theorem E6 {o : Oper} (i : Nat) (hi : ops[i]? = some o) (hr : Region.ready .any ops listed = [i]) (hw : kJ n ops E o) (hd : o.dst = none)
    (h : fY P E o W fun _ W' => S (listed.setIfInBounds i true) W' ∧ PX P n ops Q S fuel (listed.setIfInBounds i true) E W') : PX P n ops Q S (fuel + 1) listed E W := fun hc a ha => by
  have hmem : i ∈ Region.ready .any ops listed := by rw [hr]; simp
  refine ⟨fun h0 => (by rw [h0] at hr; cases hr), fun j hj => ?_⟩
  rw [hr] at hj
  obtain rfl := List.mem_singleton.1 hj
  unfold wpOp
  simp only [hi]
  rw [if_pos (hw.of ha)]
  refine .inl ?_
  unfold Oper.wp
  rw [ha.eval]
  rcases h with ⟨v, W', h1, h2⟩ | ⟨W', h1, h2⟩ | ⟨f, args, h1, h2⟩
  · rw [h1, Oper.upon_value, hd]; exact ⟨h2.1, h2.2 (hc.set hmem) _ (ha.put_none _)⟩
  · rw [h1, Oper.upon_skip, hd]; exact ⟨h2.1, h2.2 (hc.set hmem) _ (ha.put_none _)⟩
  · rw [h1, Oper.upon_enter]
    refine Calls.mono h2 ?_
    rintro e w' ⟨v, rfl, hl⟩
    simp only [hd]
    exact ⟨hl.1, hl.2 (hc.set hmem) _ (ha.put_none _)⟩
theorem dC (hr : Region.ready .any ops listed = []) (h : Q .normal E W) : PX P n ops Q S fuel listed E W := fun _ a ha => by
  cases fuel with
  | zero => exact ⟨hr, E, ha, h⟩
  | succ f => exact ⟨fun _ => ⟨E, ha, h⟩, fun i hi => by rw [hr] at hi; cases hi⟩
theorem pB {p : Prop} {b : Bool} (hb : b = true) (h : b = false) : p := by rw [hb] at h; cases h
theorem kL {l' : Array Bool} (hl : listed = l') (h : PX P n ops Q S fuel l' E W) : PX P n ops Q S fuel listed E W := by rw [hl]; exact h
theorem rx {o o' : Oper} {d d' : Nat} (i j : Nat) (hi : ops[i]? = some o) (hj : ops[j]? = some o') (hr : Region.ready .any ops listed = [i, j]) (hw : kJ n ops E o) (hw' : kJ n ops E o') (hd : o.dst = some d) (hd' : o'.dst = some d') (hn : d < n) (hn' : d' < n)
    (h : fY P E o W fun v W' => S (listed.setIfInBounds i true) W' ∧ PX P n ops Q S fuel (listed.setIfInBounds i true) (jZ E d v) W')
    (h' : fY P E o' W fun v W' => S (listed.setIfInBounds j true) W' ∧ PX P n ops Q S fuel (listed.setIfInBounds j true) (jZ E d' v) W') : PX P n ops Q S (fuel + 1) listed E W := fun hc a ha => by
  have key : ∀ (k : Nat) (q : Oper) (e : Nat), ops[k]? = some q → k ∈ Region.ready .any ops listed → kJ n ops E q → q.dst = some e → e < n → (fY P E q W fun v W' => S (listed.setIfInBounds k true) W' ∧ PX P n ops Q S fuel (listed.setIfInBounds k true) (jZ E e v) W') →
      wpOp P ops (lift n Q) k (fun a' w' => S (listed.setIfInBounds k true) w' ∧ zU P ops (lift n Q) S fuel (listed.setIfInBounds k true) a' w') a W := by
    intro k q e hk hmem hw hd hn h
    unfold wpOp
    simp only [hk]
    rw [if_pos (hw.of ha)]
    refine .inl ?_
    unfold Oper.wp
    rw [ha.eval]
    rcases h with ⟨v, W', h1, h2⟩ | ⟨W', h1, h2⟩ | ⟨f, args, h1, h2⟩
    · rw [h1, Oper.upon_value]; exact ⟨h2.1, by rw [hd]; exact h2.2 (hc.set hmem) _ (ha.put hn v)⟩
    · rw [h1, Oper.upon_skip]; exact ⟨h2.1, by rw [hd]; exact h2.2 (hc.set hmem) _ (ha.put hn _)⟩
    · rw [h1, Oper.upon_enter]
      refine Calls.mono h2 ?_
      rintro e w' ⟨v, rfl, hl⟩
      exact ⟨hl.1, by simp only [hd]; exact hl.2 (hc.set hmem) _ (ha.put hn v)⟩
  refine ⟨fun h0 => (by rw [h0] at hr; cases hr), fun k hk => ?_⟩
  rw [hr] at hk
  rcases List.mem_cons.1 hk with rfl | hk
  · exact key _ o d hi (by rw [hr]; simp) hw hd hn h
  · obtain rfl := List.mem_singleton.1 hk
    exact key _ o' d' hj (by rw [hr]; simp) hw' hd' hn' h'
theorem cW {l : Array Bool} {i j : Nat} {A : Prop} (hij : Nat.beq i j = false) (h : (l.setIfInBounds i true).getD j true = false → A) : l.getD j true = false → A := fun h0 => h (by
  rw [getD_set_ne true (fun e => by subst e; simp at hij)]; exact h0)
end
theorem pR.at {α : Type} {e : TypeId} {enc : α → List Value} {k : Nat} {v : Value} {l : List α} {R : List (Nat × Obj)} (h : bE e enc k v l R) (hk : ∀ x, (enc x).length = k) {p : Value} {i : Nat} (hp : pR R k p i) {x : α} (hl : l[i]? = some x) : At (pM R) p (enc x) := by
  obtain ⟨g', cur, cap, rfl, rfl, _, _, _, _, rfl, h5⟩ := qp h hk hp hl
  exact ⟨g', i * k, cur, e, (0, 0), rfl, by simp [pM], h5⟩
theorem nn.form {κ β : Type} {kenc : κ → Value} {vf : β → Value} {μ : aY} {v : Value} {l : List (κ × β)} (h : nn kenc vf μ v l) : ∃ r, v = .map r := by
  rcases h with ⟨h, _⟩ | ⟨m, es, clock, h, _⟩
  · exact ⟨_, h⟩
  · exact ⟨_, h⟩
noncomputable def wr {β : Type} (l : List (ByteArray × β)) : Option (List ByteArray) :=
  open Classical in if (l.map (·.1)).Nodup ∧ (∀ p ∈ l, p.1.size ≤ maxLen) ∧ l.length * 16 ≤ 140737488355328 then some (ms (l.map (·.1))) else none
end Go.Proofs.YtmlncblocfcmiaaGreat
namespace Go.Proofs.YtmlncblocfcmiaaGreat
open Go.RowKit
section
variable {P : Program} {n : Nat} {Q : kA} {E : Nat → Value} {W : World} {ops : Array Oper} {rest : List Oper}
variable {dd : Bool} {α : Type} {enc : α → List Value} {k : Nat} {μ : aY} {v : Value}
variable {d : Option Nat} {ty : TypeId} {pos : String} {af : Array Edge} {g : Option (Nat × Bool)} {F : Nat → Prop} {w : World} {L : List (Nat × Obj)}
theorem Ev {x y : Operand} {ats : Array TypeId} {k : IntKind} {a b : Int} (hx : aR E x = .int k a) (hy : aR E y = .int k b) :
    dT P E ⟨d, .call ⟨.builtin .max, #[x, y], ats⟩, ty, pos, af, g⟩ W (.int k (if b > a then b else a)) W := by
  show (do let d ← resolve (aR E) ⟨.builtin .max, #[x, y], ats⟩ ty; invoke d.target d.args : Sem Next).run P W = _
  simp [resolve, invoke, hx, hy, builtin, Builtin.max_, Builtin.max2]
end
end Go.Proofs.YtmlncblocfcmiaaGreat
namespace Go.Proofs.YtmlncblocfcmiaaGreat
open Go.RowKit
variable {dd : Bool}
section
variable {P : Program} {fn : Func} {R : Ending → World → Prop} {E : Nat → Value} {W : World}
theorem kd {r0 : Tmp} {t0 : TypeId} {a0 : Addr} {v0 : Value} {r1 : Tmp} {v1 : Value} (hr : fn.results = #[.cell r0 t0, .tmp r1]) (h0 : E r0 = .pointer (some a0)) (l0 : (Instr.loadAt t0 (.pointer (some a0))).run P W = .ok v0 W) (h1 : E r1 = v1) (h : R (.returned (.tuple #[v0, v1])) W) : qu P fn R .ret E W :=
  ⟨.tuple #[v0, v1], fun tmps ht => by
    have q0 : (loadVar t0 a0).run P W = .ok v0 W := by simpa [Instr.loadAt, Instr.sureAddr] using l0
    simp [results, hr, ht, asAddr, h0, q0, h1], h⟩
theorem CB {r0 : Tmp} {v0 : Value} {r1 : Tmp} {v1 : Value} {r2 : Tmp} {v2 : Value} (hr : fn.results = #[.tmp r0, .tmp r1, .tmp r2]) (h0 : E r0 = v0) (h1 : E r1 = v1) (h2 : E r2 = v2) (h : R (.returned (.tuple #[v0, v1, v2])) W) : qu P fn R .ret E W :=
  ⟨.tuple #[v0, v1, v2], fun tmps ht => by
    skip
    simp [results, hr, ht, asAddr, h0, h1, h2], h⟩
end
end Go.Proofs.YtmlncblocfcmiaaGreat
namespace Go.Proofs.YtmlncblocfcmiaaGreat
open Go.RowKit
section
variable {x y : Nat × Obj} {A B C L R S : List (Nat × Obj)}
theorem Pz : (x :: A).Perm (x :: A) := .refl _
theorem Pb (h : A.Perm (x :: B)) : (y :: A).Perm (x :: y :: B) := (h.cons y).trans (.swap ..)
theorem Pr (h : A.Perm (x :: B)) : (S ++ A).Perm (x :: (S ++ B)) := (h.append_left S).trans List.perm_middle
theorem Qz : (R ++ A).Perm (R ++ A) := .refl _
theorem Qb (h : A.Perm (R ++ B)) : (y :: A).Perm (R ++ (y :: B)) := (h.cons y).trans List.perm_middle.symm
theorem Qr (h : A.Perm (R ++ B)) : (S ++ A).Perm (R ++ (S ++ B)) := (h.append_left S).trans (List.perm_append_comm_assoc S R B)
def eQ (L L' : List (Nat × Obj)) : Prop := ∃ M, L.Perm (L' ++ M)
theorem Sn : eQ L [] := ⟨L, .refl _⟩
theorem St : eQ L L := ⟨[], by rw [List.append_nil]⟩
theorem Sb (h : L.Perm (x :: A)) (k : eQ A B) : eQ L (x :: B) := let ⟨M, m⟩ := k; ⟨M, h.trans (m.cons x)⟩
theorem Sr (h : L.Perm (R ++ A)) (k : eQ A B) : eQ L (R ++ B) := let ⟨M, m⟩ := k; ⟨M, by rw [List.append_assoc]; exact h.trans (m.append_left R)⟩
theorem Kb (k : eQ A B) : eQ (x :: A) (x :: B) := Sb Pz k
theorem Kr (k : eQ A B) : eQ (R ++ A) (R ++ B) := Sr Qz k
theorem Db (k : eQ A B) : eQ (x :: A) B := let ⟨M, m⟩ := k; ⟨x :: M, (m.cons x).trans List.perm_middle.symm⟩
theorem Dr (k : eQ A B) : eQ (R ++ A) B := let ⟨M, m⟩ := k; ⟨R ++ M, (m.append_left R).trans (List.perm_append_comm_assoc R B M)⟩
theorem eQ.mem (s : eQ L A) : ∀ p, p ∈ A → p ∈ L := fun p hp => let ⟨M, m⟩ := s; m.mem_iff.2 (List.mem_append_left _ hp)
theorem ST.sel {dd : Bool} {F : Nat → Prop} {w W : World} {μ : aY} (h : ST dd F w W μ L) (s : eQ L A) : ST dd F w W μ A := let ⟨M, m⟩ := s; (h.perm m).sublist (List.sublist_append_left A M)
theorem gD.sel {μ : aY} {W : World} (h : gD μ L W) (s : eQ L A) : gD μ A W := h.sub (aW.refl _) s.mem
theorem gD.selS {μ μ' : aY} {W : World} (h : gD μ L W) (hs : aW μ' μ) (s : eQ L A) : gD μ' A W := h.sub hs s.mem
theorem Cn : L.Perm ([] ++ L) := .refl _
theorem Cb (h : L.Perm (x :: A)) (k : A.Perm (B ++ C)) : L.Perm ((x :: B) ++ C) := h.trans (k.cons x)
theorem Cr (h : L.Perm (R ++ A)) (k : A.Perm (B ++ C)) : L.Perm ((R ++ B) ++ C) := by rw [List.append_assoc]; exact h.trans (k.append_left R)
theorem C0 (k : L.Perm (B ++ C)) : L.Perm (([] ++ B) ++ C) := k
theorem Tn : ([] ++ A).Perm A := .refl _
theorem Tb (h : (A ++ B).Perm C) : ((x :: A) ++ B).Perm (x :: C) := h.cons x
theorem Tr (h : (A ++ B).Perm C) : ((R ++ A) ++ B).Perm (R ++ C) := by rw [List.append_assoc]; exact h.append_left R
theorem Nb (h : L.Perm (x :: A)) (k : A.Perm B) : L.Perm (x :: B) := h.trans (k.cons x)
theorem Nr (h : L.Perm (R ++ A)) (k : A.Perm B) : L.Perm (R ++ B) := h.trans (k.append_left R)
theorem Nz : L.Perm L := .refl _
theorem FK {R' R1 : List (Nat × Obj)} (hp : R.Perm (R' ++ R1)) : (R ++ A).Perm (R' ++ (R1 ++ A)) := by rw [← List.append_assoc]; exact hp.append_right A
theorem Mh : x ∈ x :: A := .head _
theorem Mt (h : x ∈ A) : x ∈ y :: A := .tail _ h
theorem Ma (h : x ∈ A) : x ∈ R ++ A := List.mem_append_right _ h
theorem Ml (h : x ∈ R) : x ∈ R ++ A := List.mem_append_left _ h
end
section
variable {dd : Bool} {F : Nat → Prop} {w W : World} {μ : aY} {L L0 L1 Y R : List (Nat × Obj)}
theorem ST.bkL (h : ST dd dW w W μ L) (s : eQ L L1) : mN dd [] L1 w W := let ⟨_, m⟩ := s; (h.perm m).backL
theorem ST.bkM (h : ST dd (keys L0) w W μ L) (s : eQ L L1) : mN dd L0 L1 w W := let ⟨_, m⟩ := s; (h.perm m).backM
theorem ST.pubAll : ∀ {R : List (Nat × Obj)} {μ : aY}, ST dd F w W μ (R ++ Y) → ∃ μ', ST dd F w W μ' Y ∧ aW μ μ' ∧ Lo F w μ μ' ∧ ∀ b o, (b, o) ∈ R → μ' b = some o
  | [], μ, h => ⟨μ, h, aW.refl _, Lo.refl, fun _ _ h => by cases h⟩
  | (g, o) :: R, μ, h => by
    have h' : ST dd F w W μ ([] ++ (g, o) :: (R ++ Y)) := h
    obtain ⟨μ', a1, a2, a3, a4⟩ := ST.pubAll (R := R) (ST.publish (A := []) h')
    refine ⟨μ', a1, (ST.pub_sub (A := []) h').trans a2, (ST.lo_pub (A := []) h').trans a3, fun b o' hb => ?_⟩
    rcases List.mem_cons.1 hb with hb | hb
    · cases hb; exact a2 _ _ (if_pos rfl)
    · exact a4 b o' hb
theorem ST.pub1 {α : Type} {e' : TypeId} {enc : α → List Value} {k : Nat} {v : Value} {l : List α} (hST : ST dd F w W μ (R ++ Y)) (h : bE e' enc k v l R) (hk : ∀ x, (enc x).length = k) : ∃ μ', ST dd F w W μ' Y ∧ aW μ μ' ∧ Lo F w μ μ' ∧ Sl (Pl enc) k μ' v l := by
  obtain ⟨μ', a1, a2, a3, a4⟩ := ST.pubAll hST
  exact ⟨μ', a1, a2, a3, h.sl hk a4⟩
section
variable {P : Program} {n : Nat} {Q : kA} {E : Nat → Value} {V : World} {id : Nat} {l : List Oper} {A B C : List (Nat × Obj)}
theorem cU (h0 : gD μ A V.drew) (hm : P.follows .mixedOrders = true) (h : PX P n l.toArray Q (fun _ W => gD μ A W) l.length (Array.replicate l.length false) E V.drew) : CW P n (.region id l.toArray true) Q E V := zb _ hm h
theorem mL (i : Nat) (h0 : gD μ A V.drew) (h1 : gD μ B V.drew) (hm : P.follows .mixedOrders = true) (h : PX P n l.toArray Q (fun l W => gD μ A W ∧ (l.getD i true = false → gD μ B W)) l.length (Array.replicate l.length false) E V.drew) : CW P n (.region id l.toArray true) Q E V := zb _ hm h
end
structure ie (μ : aY) (L0 : List (Nat × Obj)) (w : World) : Prop where
  H : tF L0 w
  N : (L0.map (·.1)).Nodup
  S : aW μ (mW w L0)
theorem ST.startE (h : ie μ L0 w) : ST dd (keys L0) w w μ L0 := (ST.startM h.H h.N).weak h.S
end
section
variable {dd : Bool} {P : Program} {E : Nat → Value} {W : World} {d : Option Nat} {ty : TypeId} {pos : String} {af : Array Edge} {g : Option (Nat × Bool)} {F : Nat → Prop} {w : World} {μ : aY} {L : List (Nat × Obj)}
theorem aX {K : Value → World → Prop} {B : List (Nat × Obj)} {t : TypeId} {x y : Operand} (v : Value) {b off : Nat} {cs : Array Value} {T : TypeId} (cs' : Array Value) (hST : ST dd F w W μ ((b, .cells cs T (0, 0)) :: B))
    (hx : aR E x = .pointer (some ⟨b, off, none⟩)) (hy : aR E y = v) (hS : ∀ w, (sizeOf t).run P w = .ok v.cells.size w)
    (h1 : ∀ u ∈ v.cells.toList, u.oneCell' = true) (hl : off + v.cells.size ≤ cs.size) (hc : (cs.toList.take off ++ v.cells.toList ++ cs.toList.drop (off + v.cells.size)).toArray = cs')
    (h : ∀ W', ST dd F w W' μ ((b, .cells cs' T (0, 0)) :: B) → K undef W') : fY P E ⟨d, .store t x y, ty, pos, af, g⟩ W K := DH [] v cs' hST hx hy hS h1 hl hc h
end
section
variable {dd : Bool}
variable {P : Program} {n : Nat} {Q : kA} {E : Nat → Value} {W : World} {ops : Array Oper} {rest : List Oper}
  {d : Option Nat} {ty : TypeId} {pos : String} {af : Array Edge} {g : Option (Nat × Bool)}
  {F : Nat → Prop} {w : World} {μ : aY} {L : List (Nat × Obj)}
theorem kj {K : Value → World → Prop} {α : Type} {e t : TypeId} {enc : α → List Value} {k by_ : Nat} {z v vs : Value} {l m r : List α} {R : List (Nat × Obj)} {Y : List (Nat × Obj)} {x y : Operand} {i : TypeInfo} (hST : ST dd F w W μ (R ++ Y)) (hk : ∀ x, (enc x).length = k) (hk0 : 0 < k) (h1 : ∀ x, ∀ u ∈ enc x, u.oneCell' = true) (ht : P.underlying t = some (.slice e)) (hi : P.info? e = some i) (hz : i.zero = some z) (hzs : z.cells.size = k) (hsz : i.size = k) (hby : i.bytes = by_) (hx : aR E x = v) (hy : aR E y = vs) (hR : bE e enc k v l R) (hs : Sl (Pl enc) k (hp W) vs m) (hb : gT by_ l m = some r) (h : ∀ W' v' R', ST dd F w W' μ (R' ++ Y) → bE e enc k v' r R' → K v' W') : fY P E ⟨d, .call ⟨.builtin .append, #[x, y], #[t, t]⟩, ty, pos, af, g⟩ W K :=
  yK [] hST hk hk0 h1 ht hi hz hzs hsz hby hx hy hR hs hb h
end
section
variable {dd : Bool}
variable {P : Program} {E : Nat → Value} {W : World} {d : Option Nat} {ty : TypeId} {pos : String} {af : Array Edge} {g : Option (Nat × Bool)}
  {F : Nat → Prop} {w : World} {μ : aY} {L : List (Nat × Obj)}
theorem AK {K : Value → World → Prop} {α : Type} {e : TypeId} {enc : α → List Value} {k : Nat} {l : List α} {f : FuncId} {fv : Operand} {ax : Array Operand} {ats : Array TypeId} {caps : Array Value} {args : List Value} (Y : List (Nat × Obj)) (hST : ST dd F w W μ Y) (hf : aR E fv = .func (.func f) #[] caps) (he : ∀ args w, (callFunc f args).run P w = .ok (.enter f args) w) (ha : ax.map (aR E) ++ caps = args.toArray) (hc : fD dd P f args W e enc k l) (h : ∀ W' v μ' R, ST dd F w W' μ' (R ++ Y) → aW μ μ' → Lo F w μ μ' → bE e enc k v l R → K v W') : fY P E ⟨d, .call ⟨.value fv, ax, ats⟩, ty, pos, af, g⟩ W K :=
  AT [] Y hST hf he ha hc h
end
section
variable {dd : Bool}
variable {P : Program} {E : Nat → Value} {W : World} {d : Option Nat} {ty : TypeId} {pos : String} {af : Array Edge} {g : Option (Nat × Bool)}
  {F : Nat → Prop} {w : World} {μ : aY} {L : List (Nat × Obj)} {α : Type} {e' : TypeId} {enc : α → List Value} {k : Nat} {v : Value} {l : List α} {R : List (Nat × Obj)}
theorem sw {K : Value → World → Prop} {Y : List (Nat × Obj)} {t : TypeId} {x y : Operand} {p u : Value} {i : Nat} {x0 x1 : α} (hST : ST dd F w W μ (R ++ Y)) (h : bE e' enc k v l R) (hk : ∀ x, (enc x).length = k) (h1 : ∀ x, ∀ u ∈ enc x, u.oneCell' = true) (hx : aR E x = p) (hy : aR E y = u) (hu : u.cells = (enc x1).toArray) (hp : pR R k p i) (hl : l[i]? = some x0) (hS : ∀ w, (sizeOf t).run P w = .ok k w) (hK : ∀ W' R', ST dd F w W' μ (R' ++ Y) → bE e' enc k v (l.set i x1) R' → K undef W') : fY P E ⟨d, .store t x y, ty, pos, af, g⟩ W K :=
  AY [] hST h hk h1 hx hy hu hp hl hS hK
end
section
variable {dd : Bool}
variable {P : Program} {E : Nat → Value} {W : World} {d : Option Nat} {ty : TypeId} {pos : String} {af : Array Edge} {g : Option (Nat × Bool)}
  {F : Nat → Prop} {w : World} {μ : aY} {L : List (Nat × Obj)} {α : Type} {e' : TypeId} {enc : α → List Value} {k : Nat} {v : Value} {l : List α} {R : List (Nat × Obj)}
theorem ra {K : Value → World → Prop} (z : α) {Y : List (Nat × Obj)} {t e : TypeId} {x : Operand} {u zv : Value} {i : Nat} (hST : ST dd F w W μ (R ++ Y)) (h : bE e' enc k v l R) (hk : ∀ x, (enc x).length = k) (h1 : ∀ x, ∀ u ∈ enc x, u.oneCell' = true) (ht : P.underlying t = some (.slice e)) (hz : ∀ w, (zeroValue e).run P w = .ok zv w) (hu : pZ k v i u) (hc : zv.cells = (enc z).toArray) (hx : aR E x = u) (hK : ∀ W' R', ST dd F w W' μ (R' ++ Y) → bE e' enc k v (gW l i z) R' → K (.tuple #[]) W') : fY P E ⟨d, .call ⟨.builtin .clear, #[x], #[t]⟩, ty, pos, af, g⟩ W K :=
  zl z [] hST h hk h1 ht hz hu hc hx hK
end
section
variable {dd : Bool}
variable {κ γ : Type} {Q : Value → γ → List (Nat × Obj) → Prop} {beq : κ → κ → Bool} {kenc : κ → Value}
variable {P : Program} {W : World} {kt : TypeId} {E : Nat → Value} {d : Option Nat} {ty : TypeId} {pos : String} {af : Array Edge} {g : Option (Nat × Bool)} {F : Nat → Prop} {w : World} {μ : aY} {L : List (Nat × Obj)}
variable {κ2 β : Type} {kenc2 : κ2 → Value} {vf : β → Value} {beq2 : κ2 → κ2 → Bool} {kt2 : TypeId}
theorem Bl {Kk : Value → World → Prop} {Y R : List (Nat × Obj)} {t e : TypeId} {m x y : Operand} {mv : Value} {lv : List (κ × Value)} {l l' : List (κ × List (κ2 × β))} {k : κ} {k2 : κ2} {v : β} (hk : ∀ {x y : κ}, beq x y = true → x = y) (K : iM P kt2 kenc2 beq2) (ht : P.underlying t = some (.map kt2 e)) (hST : ST dd F w W μ (R ++ Y)) (h : eG kenc (dK kenc2 vf) mv lv l R) (hm : aR E m = jT beq lv k (.map none)) (hx : aR E x = kenc2 k2) (hy : aR E y = vf v) (hl : vj beq beq2 l k k2 v = some l') (hK : ∀ W' R', ST dd F w W' μ (R' ++ Y) → eG kenc (dK kenc2 vf) mv lv l' R' → Kk undef W') : fY P E ⟨d, .mapUpdate t m x y, ty, pos, af, g⟩ W Kk :=
  BD [] hk K ht hST h hm hx hy hl hK
end
section
variable {dd : Bool}
variable {κ γ : Type} {Q : Value → γ → List (Nat × Obj) → Prop} {beq : κ → κ → Bool} {kenc : κ → Value}
variable {P : Program} {W : World} {kt : TypeId} {E : Nat → Value} {d : Option Nat} {ty : TypeId} {pos : String} {af : Array Edge} {g : Option (Nat × Bool)} {F : Nat → Prop} {w : World} {μ : aY} {L : List (Nat × Obj)}
variable {κ2 β : Type} {kenc2 : κ2 → Value} {vf : β → Value} {beq2 : κ2 → κ2 → Bool} {kt2 : TypeId}
theorem BI {Kk : Value → World → Prop} {Y R R2 : List (Nat × Obj)} {t e : TypeId} {m x y : Operand} {mv : Value} {lv : List (κ × Value)} {l l' : List (κ × γ)} {k : κ} {u : Value} {z : γ} (K : iM P kt kenc beq) (ht : P.underlying t = some (.map kt e)) (hST : ST dd F w W μ (R ++ (R2 ++ Y))) (h : eG kenc Q mv lv l R) (hm : aR E m = mv) (hx : aR E x = kenc k) (hy : aR E y = u) (hq : Q u z R2) (hl : vm beq l k z = some l') (hK : ∀ W' R', ST dd F w W' μ (R' ++ Y) → eG kenc Q mv (gG beq lv k u) l' R' → Kk undef W') : fY P E ⟨d, .mapUpdate t m x y, ty, pos, af, g⟩ W Kk :=
  BT [] K ht hST h hm hx hy hq hl hK
end
section
variable {dd : Bool}
variable {κ γ : Type} {Q : Value → γ → List (Nat × Obj) → Prop} {beq : κ → κ → Bool} {kenc : κ → Value}
variable {P : Program} {W : World} {kt : TypeId} {E : Nat → Value} {d : Option Nat} {ty : TypeId} {pos : String} {af : Array Edge} {g : Option (Nat × Bool)} {F : Nat → Prop} {w : World} {μ : aY} {L : List (Nat × Obj)}
theorem EN {Kk : Value → World → Prop} {Y R R1 : List (Nat × Obj)} {t e : TypeId} {m x y : Operand} {mv : Value} {lv : List (κ × Value)} {l : List (κ × γ)} {k : κ} {u : Value} {z : γ} (K : iM P kt kenc beq) (ht : P.underlying t = some (.map kt e)) (hST : ST dd F w W μ (R ++ (R1 ++ Y))) (h : AS beq kenc Q mv lv l k R) (hm : aR E m = mv) (hx : aR E x = kenc k) (hy : aR E y = u) (hq : Q u z R1) (hK : ∀ W' R', ST dd F w W' μ (R' ++ Y) → eG kenc Q mv (gG beq lv k u) (gG beq l k z) R' → Kk undef W') : fY P E ⟨d, .mapUpdate t m x y, ty, pos, af, g⟩ W Kk :=
  Ec [] K ht hST h hm hx hy hq hK
end
section
variable {dd : Bool}
variable {κ γ : Type} {Q : Value → γ → List (Nat × Obj) → Prop} {beq : κ → κ → Bool} {kenc : κ → Value}
variable {P : Program} {W : World} {kt : TypeId} {E : Nat → Value} {d : Option Nat} {ty : TypeId} {pos : String} {af : Array Edge} {g : Option (Nat × Bool)} {F : Nat → Prop} {w : World} {μ : aY} {L : List (Nat × Obj)}
theorem A6 {Kk : Value → World → Prop} {Y R : List (Nat × Obj)} {t e : TypeId} {m x : Operand} {mv z : Value} {x0 : γ} {lv : List (κ × Value)} {l : List (κ × γ)} {k : κ} (hk : ∀ {x y : κ}, beq x y = true ↔ x = y) (K : iM P kt kenc beq) (ht : P.underlying t = some (.map kt e)) (hz : ∀ w, (zeroValue e).run P w = .ok z w) (hq0 : Q z x0 []) (hST : ST dd F w W μ (R ++ Y)) (h : eG kenc Q mv lv l R) (hm : aR E m = mv) (hx : aR E x = kenc k) (hK : ∀ W' v st R' R1, ST dd F w W' μ (R' ++ (R1 ++ Y)) → Q v ((cG beq l k).getD x0) R1 → xW beq kenc Q mv l k st R' → Kk (.tuple #[v, .int .i64 (st : Nat)]) W') : fY P E ⟨d, .mapEntry t m x, ty, pos, af, g⟩ W Kk :=
  AA [] hk K ht hz hq0 hST h hm hx hK
end
section
variable {dd : Bool}
variable {κ γ : Type} {Q : Value → γ → List (Nat × Obj) → Prop} {beq : κ → κ → Bool} {kenc : κ → Value}
variable {P : Program} {W : World} {kt : TypeId} {E : Nat → Value} {d : Option Nat} {ty : TypeId} {pos : String} {af : Array Edge} {g : Option (Nat × Bool)} {F : Nat → Prop} {w : World} {μ : aY} {L : List (Nat × Obj)}
theorem yI {Kk : Value → World → Prop} {Y R R1 : List (Nat × Obj)} {t e : TypeId} {m s y : Operand} {mv u : Value} {z : γ} {l : List (κ × γ)} {k : κ} {st : Nat} (hk : ∀ {x y : κ}, beq x y = true ↔ x = y) (K : iM P kt kenc beq) (hST : ST dd F w W μ (R ++ (R1 ++ Y))) (h : xW beq kenc Q mv l k st R) (hm : aR E m = mv) (hs : aR E s = .int .i64 (st : Nat)) (hy : aR E y = u) (hq : Q u z R1) (hK : ∀ W' lv' R', ST dd F w W' μ (R' ++ Y) → eG kenc Q mv lv' (gG beq l k z) R' → Kk undef W') : fY P E ⟨d, .entryStore t m s y, ty, pos, af, g⟩ W Kk :=
  ye (e := e) [] hk K hST h hm hs hy hq hK
end
section
variable {dd : Bool}
variable {α : Type} {e : TypeId} {enc : α → List Value} {k : Nat} {v : Value} {l : List α} {R : List (Nat × Obj)}
variable {P : Program} {W : World} {E : Nat → Value} {d : Option Nat} {ty : TypeId} {pos : String} {af : Array Edge} {g : Option (Nat × Bool)} {F : Nat → Prop} {w : World} {μ : aY} {L : List (Nat × Obj)}
theorem zi {K : Value → World → Prop} {t : TypeId} {by_ : Nat} {z vs : Value} {m r : List α} {Y : List (Nat × Obj)} {x y : Operand} {i : TypeInfo} (hST : ST dd F w W μ (R ++ Y)) (hk : ∀ x, (enc x).length = k) (hk0 : 0 < k) (h1 : ∀ x, ∀ u ∈ enc x, u.oneCell' = true) (ht : P.underlying t = some (.slice e)) (hi : P.info? e = some i) (hz : i.zero = some z) (hzs : z.cells.size = k) (hsz : i.size = k) (hby : i.bytes = by_) (hx : aR E x = v) (hy : aR E y = vs) (hR : jv e enc k v l R) (hs : Sl (Pl enc) k (hp W) vs m) (hb : gT by_ l m = some r) (h : ∀ W' v' R', ST dd F w W' μ (R' ++ Y) → jv e enc k v' r R' → K v' W') : fY P E ⟨d, .call ⟨.builtin .append, #[x, y], #[t, t]⟩, ty, pos, af, g⟩ W K :=
  zo [] hST hk hk0 h1 ht hi hz hzs hsz hby hx hy hR hs hb h
end
end Go.Proofs.YtmlncblocfcmiaaGreat
namespace Go.Proofs.YtmlncblocfcmiaaGreat
open Go.RowKit
section
variable {P : Program} {n : Nat} {Q : kA} {E : Nat → Value} {W : World} {ops : Array Oper} {rest : List Oper}
variable {d j t : Nat} {want : Bool} {v : Value} {ins : Go.Op} {ty : TypeId} {pos : String} {af : Array Edge} {A : Value → Prop}
theorem V (hr : dT P E ⟨some d, ins, ty, pos, af, none⟩ W v W) (h : LW P n ops Q rest (jZ E d v) W) (hn : d < n := by decide) : LW P n ops Q (⟨some d, ins, ty, pos, af, none⟩ :: rest) E W := wX (.inl rfl) rfl hn hr h
theorem VE (h : fY P E ⟨some d, ins, ty, pos, af, none⟩ W fun v W' => LW P n ops Q rest (jZ E d v) W') (hn : d < n := by decide) : LW P n ops Q (⟨some d, ins, ty, pos, af, none⟩ :: rest) E W := Eu (.inl rfl) rfl hn h
theorem VO (h : fY P E ⟨none, ins, ty, pos, af, none⟩ W fun _ W' => LW P n ops Q rest E W') : LW P n ops Q (⟨none, ins, ty, pos, af, none⟩ :: rest) E W := E3 (.inl rfl) rfl h
theorem VQ (hr : ∃ p, A p ∧ ∀ W, dT P E ⟨some d, ins, ty, pos, af, none⟩ W p W) (h : ∀ p, A p → LW P n ops Q rest (jZ E d p) W) (hn : d < n := by decide) : LW P n ops Q (⟨some d, ins, ty, pos, af, none⟩ :: rest) E W := Fz (.inl rfl) rfl hn hr h
theorem Vg (hj : (ops[j]?).bind (·.dst) = some t) (hE : E t = .bool want) (hr : dT P E ⟨some d, ins, ty, pos, af, some (j, want)⟩ W v W) (h : LW P n ops Q rest (jZ E d v) W) (ht : t < n := by decide) (hn : d < n := by decide) : LW P n ops Q (⟨some d, ins, ty, pos, af, some (j, want)⟩ :: rest) E W := wX (.inr ⟨j, want, t, rfl, hj, ht, hE⟩) rfl hn hr h
theorem np (hj : (ops[j]?).bind (·.dst) = some t) (hE : E t = .bool want) (h : fY P E ⟨some d, ins, ty, pos, af, some (j, want)⟩ W fun v W' => LW P n ops Q rest (jZ E d v) W') (ht : t < n := by decide) (hn : d < n := by decide) : LW P n ops Q (⟨some d, ins, ty, pos, af, some (j, want)⟩ :: rest) E W := Eu (.inr ⟨j, want, t, rfl, hj, ht, hE⟩) rfl hn h
theorem Vn (hj : (ops[j]?).bind (·.dst) = some t) (hE : E t = .bool (!want)) (h : LW P n ops Q rest (jZ E d undef) W) (ht : t < n := by decide) (hn : d < n := by decide) : LW P n ops Q (⟨some d, ins, ty, pos, af, some (j, want)⟩ :: rest) E W := E0 rfl hn rfl hj ht hE h
end
section
variable {P : Program} {n : Nat} {Q : kA} {E : Nat → Value} {W : World} {ops : Array Oper} {S : Array Bool → World → Prop} {fuel : Nat} {listed : Array Bool} {μ : aY} {B : List (Nat × Obj)}
variable {d j t : Nat} {want : Bool} {v : Value} {ins : Go.Op} {ty : TypeId} {pos : String} {af : Array Edge} {A : Value → Prop}
theorem X (i : Nat) (hi : ops[i]? = some ⟨some d, ins, ty, pos, af, none⟩) (hS : S (listed.setIfInBounds i true) W) (hy : ∀ {W}, dT P E ⟨some d, ins, ty, pos, af, none⟩ W v W) (h : PX P n ops Q S fuel (listed.setIfInBounds i true) (jZ E d v) W)
    (hk : sT ops listed i = true := by kernel_rfl) (hm : ∀ l w, S (l.setIfInBounds i true) w → S l w := by exact fun _ _ h => h) (hn : d < n := by decide) : PX P n ops Q S (fuel + 1) listed E W := cE i hi hk (.inl rfl) rfl hn hm hS (fun _ _ _ _ => hy) h
theorem XH (i : Nat) (hi : ops[i]? = some ⟨some d, ins, ty, pos, af, none⟩) (hS : gD μ B W) (hy : ∀ W, gD μ B W → dT P E ⟨some d, ins, ty, pos, af, none⟩ W v W) (h : PX P n ops Q (fun _ W => gD μ B W) fuel (listed.setIfInBounds i true) (jZ E d v) W)
    (hk : sT ops listed i = true := by kernel_rfl) (hn : d < n := by decide) : PX P n ops Q (fun _ W => gD μ B W) (fuel + 1) listed E W := cE i hi hk (.inl rfl) rfl hn (fun _ _ h => h) hS (fun _ W _ h => hy W h) h
theorem XQ (i : Nat) (hi : ops[i]? = some ⟨some d, ins, ty, pos, af, none⟩) (hS : S (listed.setIfInBounds i true) W) (hy : ∃ p, A p ∧ ∀ W, dT P E ⟨some d, ins, ty, pos, af, none⟩ W p W) (h : ∀ p, A p → PX P n ops Q S fuel (listed.setIfInBounds i true) (jZ E d p) W)
    (hk : sT ops listed i = true := by kernel_rfl) (hm : ∀ l w, S (l.setIfInBounds i true) w → S l w := by exact fun _ _ h => h) (hn : d < n := by decide) : PX P n ops Q S (fuel + 1) listed E W := mA i hi hk (.inl rfl) rfl hn hm hS hy h
theorem XE (i : Nat) (hi : ops[i]? = some ⟨some d, ins, ty, pos, af, none⟩) (h : fY P E ⟨some d, ins, ty, pos, af, none⟩ W fun v W' => S (listed.setIfInBounds i true) W' ∧ PX P n ops Q S fuel (listed.setIfInBounds i true) (jZ E d v) W')
    (hr : Region.ready .any ops listed = [i] := by kernel_rfl) (hn : d < n := by decide) : PX P n ops Q S (fuel + 1) listed E W := Ea i hi hr (.inl rfl) rfl hn h
theorem XO (i : Nat) (hi : ops[i]? = some ⟨none, ins, ty, pos, af, none⟩) (h : fY P E ⟨none, ins, ty, pos, af, none⟩ W fun _ W' => S (listed.setIfInBounds i true) W' ∧ PX P n ops Q S fuel (listed.setIfInBounds i true) E W')
    (hr : Region.ready .any ops listed = [i] := by kernel_rfl) : PX P n ops Q S (fuel + 1) listed E W := E6 i hi hr (.inl rfl) rfl h
theorem Xg (i : Nat) (hi : ops[i]? = some ⟨some d, ins, ty, pos, af, some (j, want)⟩) (hj : (ops[j]?).bind (·.dst) = some t) (hE : E t = .bool want) (hS : S (listed.setIfInBounds i true) W) (hy : ∀ {W}, dT P E ⟨some d, ins, ty, pos, af, some (j, want)⟩ W v W) (h : PX P n ops Q S fuel (listed.setIfInBounds i true) (jZ E d v) W)
    (hk : sT ops listed i = true := by kernel_rfl) (hm : ∀ l w, S (l.setIfInBounds i true) w → S l w := by exact fun _ _ h => h) (ht : t < n := by decide) (hn : d < n := by decide) : PX P n ops Q S (fuel + 1) listed E W := cE i hi hk (.inr ⟨j, want, t, rfl, hj, ht, hE⟩) rfl hn hm hS (fun _ _ _ _ => hy) h
theorem ql (i : Nat) (hi : ops[i]? = some ⟨some d, ins, ty, pos, af, some (j, want)⟩) (hj : (ops[j]?).bind (·.dst) = some t) (hE : E t = .bool want) (hS : gD μ B W) (hy : ∀ W, gD μ B W → dT P E ⟨some d, ins, ty, pos, af, some (j, want)⟩ W v W) (h : PX P n ops Q (fun _ W => gD μ B W) fuel (listed.setIfInBounds i true) (jZ E d v) W)
    (hk : sT ops listed i = true := by kernel_rfl) (ht : t < n := by decide) (hn : d < n := by decide) : PX P n ops Q (fun _ W => gD μ B W) (fuel + 1) listed E W := cE i hi hk (.inr ⟨j, want, t, rfl, hj, ht, hE⟩) rfl hn (fun _ _ h => h) hS (fun _ W _ h => hy W h) h
theorem Do (i : Nat) (hi : ops[i]? = some ⟨some d, ins, ty, pos, af, some (j, want)⟩) (hj : (ops[j]?).bind (·.dst) = some t) (hE : E t = .bool want) (h : fY P E ⟨some d, ins, ty, pos, af, some (j, want)⟩ W fun v W' => S (listed.setIfInBounds i true) W' ∧ PX P n ops Q S fuel (listed.setIfInBounds i true) (jZ E d v) W')
    (hr : Region.ready .any ops listed = [i] := by kernel_rfl) (ht : t < n := by decide) (hn : d < n := by decide) : PX P n ops Q S (fuel + 1) listed E W := Ea i hi hr (.inr ⟨j, want, t, rfl, hj, ht, hE⟩) rfl hn h
theorem Xn (i : Nat) (hi : ops[i]? = some ⟨some d, ins, ty, pos, af, some (j, want)⟩) (hj : (ops[j]?).bind (·.dst) = some t) (hE : E t = .bool (!want)) (hS : S (listed.setIfInBounds i true) W) (h : PX P n ops Q S fuel (listed.setIfInBounds i true) (jZ E d undef) W)
    (hk : sT ops listed i = true := by kernel_rfl) (hm : ∀ l w, S (l.setIfInBounds i true) w → S l w := by exact fun _ _ h => h) (ht : t < n := by decide) (hn : d < n := by decide) : PX P n ops Q S (fuel + 1) listed E W := Fi i hi hk rfl hj ht hE rfl hn hm hS h
end
end Go.Proofs.YtmlncblocfcmiaaGreat
namespace Go.Proofs.YtmlncblocfcmiaaGreat
open Go.RowKit
section
variable {α β γ : Type}
inductive iI (Q : α → β → Prop) : List α → List β → Prop
  | nil : iI Q [] []
  | cons {a : α} {b : β} {l : List α} {m : List β} : Q a b → iI Q l m → iI Q (a :: l) (b :: m)
namespace iI
variable {Q Q' : α → β → Prop}
theorem length {l : List α} {m : List β} (h : iI Q l m) : l.length = m.length := by
  induction h with
  | nil => rfl
  | cons _ _ ih => simp [ih]
theorem imp {l : List α} {m : List β} (h : iI Q l m) (hq : ∀ a b, Q a b → Q' a b) : iI Q' l m := by
  induction h with
  | nil => exact .nil
  | cons h1 _ ih => exact .cons (hq _ _ h1) ih
theorem get {l : List α} {m : List β} (h : iI Q l m) : ∀ {i : Nat} {b : β}, m[i]? = some b → ∃ a, l[i]? = some a ∧ Q a b := by
  induction h with
  | nil => intro i b hb; simp at hb
  | cons h1 _ ih =>
    intro i b hb
    cases i with
    | zero => simp at hb; subst hb; exact ⟨_, rfl, h1⟩
    | succ i => simpa using ih (by simpa using hb)
theorem append {l l' : List α} {m m' : List β} (h : iI Q l m) (h' : iI Q l' m') : iI Q (l ++ l') (m ++ m') := by
  induction h with
  | nil => exact h'
  | cons h1 _ ih => exact .cons h1 ih
theorem set {l : List α} {m : List β} (h : iI Q l m) {a : α} {b : β} (hq : Q a b) : ∀ i : Nat, iI Q (l.set i a) (m.set i b) := by
  induction h with
  | nil => intro i; exact .nil
  | cons h1 h2 ih =>
    intro i
    cases i with
    | zero => exact .cons hq h2
    | succ i => exact .cons h1 (ih i)
theorem take {l : List α} {m : List β} (h : iI Q l m) : ∀ i : Nat, iI Q (l.take i) (m.take i) := by
  induction h with
  | nil => intro i; simp; exact .nil
  | cons h1 _ ih =>
    intro i
    cases i with
    | zero => exact .nil
    | succ i => exact .cons h1 (ih i)
theorem drop {l : List α} {m : List β} (h : iI Q l m) : ∀ i : Nat, iI Q (l.drop i) (m.drop i) := by
  induction h with
  | nil => intro i; simp; exact .nil
  | cons h1 h2 ih =>
    intro i
    cases i with
    | zero => exact .cons h1 h2
    | succ i => exact ih i
end iI
theorem ri {P : Nat → β → α → Prop} : ∀ {m : List β} (o : Nat), (∀ (i : Nat) (b : β), m[i]? = some b → ∃ a, P (o + i) b a) → ∃ l : List α, l.length = m.length ∧ ∀ (i : Nat) (b : β), m[i]? = some b → ∃ a, l[i]? = some a ∧ P (o + i) b a
  | [], _, _ => ⟨[], rfl, fun i b h => by simp at h⟩
  | b :: m, o, h => by
    obtain ⟨a, ha⟩ := h 0 b rfl
    obtain ⟨l, h1, h2⟩ := ri (m := m) (o + 1) (fun i b hb => by
      obtain ⟨a, ha⟩ := h (i + 1) b (by simpa using hb)
      exact ⟨a, by rw [show o + 1 + i = o + (i + 1) by omega]; exact ha⟩)
    refine ⟨a :: l, by simp [h1], fun i c hc => ?_⟩
    cases i with
    | zero => simp at hc; subst hc; exact ⟨a, rfl, ha⟩
    | succ i =>
      obtain ⟨x, hx, hp⟩ := h2 i c (by simpa using hc)
      exact ⟨x, by simpa using hx, by rw [show o + (i + 1) = o + 1 + i by omega]; exact hp⟩
theorem iI.of_get {Q : α → β → Prop} : ∀ {l : List α} {m : List β}, l.length = m.length → (∀ (i : Nat) (a : α) (b : β), l[i]? = some a → m[i]? = some b → Q a b) → iI Q l m
  | [], [], _, _ => .nil
  | [], _ :: _, h, _ => by cases h
  | _ :: _, [], h, _ => by cases h
  | a :: l, b :: m, h, hq => .cons (hq 0 a b rfl rfl) (iI.of_get (by simpa using h) (fun i x y hx hy => hq (i + 1) x y (by simpa using hx) (by simpa using hy)))
end
structure Deep {β : Type} (R : iX β) (k : Nat) : Prop where
  mono : xT R
  len : ∀ {μ ys x}, R μ ys x → ys.length = k
  one : ∀ {μ ys x}, R μ ys x → ∀ u ∈ ys, u.oneCell' = true
abbrev nN (k : Nat) := {ys : List Value // ys.length = k ∧ ∀ u ∈ ys, u.oneCell' = true}
def mM {k : Nat} (c : nN k) : List Value := c.1
theorem pc {k : Nat} (x : nN k) : (mM x).length = k := x.2.1
theorem Cu {k : Nat} (x : nN k) : ∀ u ∈ mM x, u.oneCell' = true := x.2.2
theorem Sl.cell1 {α : Type} {R : iX α} {k : Nat} {μ : aY} {v : Value} {l : List α} (h : Sl R k μ v l) : v.oneCell' = true := by
  obtain ⟨A, c, rfl, _⟩ := h; rfl
section
variable {β : Type} {Rl : iX β} {k : Nat} {μ μ' : aY} {v : Value} {l : List β}
def Deep.cell (hD : Deep Rl k) {ys : List Value} {x : β} (h : Rl μ ys x) : nN k := ⟨ys, hD.len h, hD.one h⟩
theorem Sl.raw (hD : Deep Rl k) (h : Sl Rl k μ v l) : ∃ cl : List (nN k), Sl (Pl mM) k μ v cl ∧ iI (fun c x => Rl μ c.1 x) cl l := by
  obtain ⟨A, c, rfl, h1, h2, h3⟩ := h
  cases l with
  | nil => exact ⟨[], ⟨A, c, rfl, h1, h2, fun h => absurd h (by simp)⟩, .nil⟩
  | cons x0 l =>
    obtain ⟨b, off, cs, T, fr, rfl, hb, h4⟩ := h3 (by simp)
    obtain ⟨cl, e1, e2⟩ := ri (P := fun i x (c : nN k) => Rl μ c.1 x ∧ ∀ j y, c.1[j]? = some y → cs[off + i * k + j]? = some y) (m := x0 :: l) 0 (fun i x hx => by
      obtain ⟨ys, _, h6, h7⟩ := h4 i x hx
      exact ⟨hD.cell h6, h6, by rw [Nat.zero_add]; exact h7⟩)
    refine ⟨cl, ⟨_, c, by rw [e1], by omega, h2, fun _ => ⟨b, off, cs, T, fr, rfl, hb, fun i c hc => ?_⟩⟩, iI.of_get e1 (fun i c x hc hx => ?_)⟩
    · have hi : i < (x0 :: l).length := by rw [← e1]; exact (List.getElem?_eq_some_iff.1 hc).1
      obtain ⟨c', hc', _, h7⟩ := e2 i _ (List.getElem?_eq_getElem hi)
      rw [hc] at hc'; cases hc'
      exact ⟨c.1, c.2.1, rfl, by rw [Nat.zero_add] at h7; exact h7⟩
    · obtain ⟨c', hc', h6, _⟩ := e2 i x hx
      rw [hc] at hc'; cases hc'
      exact h6
theorem Sl.of_raw {cl : List (nN k)} (h : Sl (Pl mM) k μ v cl) (hs : aW μ μ') (ha : iI (fun c x => Rl μ' c.1 x) cl l) : Sl Rl k μ' v l := by
  obtain ⟨A, c, rfl, h1, h2, h3⟩ := h
  have e1 := ha.length
  refine ⟨A, c, by rw [e1], by omega, h2, fun hl => ?_⟩
  obtain ⟨b, off, cs, T, fr, rfl, hb, h4⟩ := h3 (by omega)
  refine ⟨b, off, cs, T, fr, rfl, hs _ _ hb, fun i x hx => ?_⟩
  obtain ⟨c, hc, hq⟩ := ha.get hx
  obtain ⟨ys, e2, e3, e4⟩ := h4 i c hc
  cases e3
  exact ⟨mM c, e2, hq, e4⟩
def rJ (Rl : iX β) (k : Nat) (μ : aY) (W : World) (v : Value) (l : List β) : Prop := ∃ cl : List (nN k), Sl (Pl mM) k (hp W) v cl ∧ iI (fun c x => Rl μ c.1 x) cl l
theorem rJ.sl (hD : Deep Rl k) {W : World} (h : Sl Rl k μ v l) (hs : aW μ (hp W)) : rJ Rl k μ W v l := by
  obtain ⟨cl, h1, h2⟩ := h.raw hD
  exact ⟨cl, h1.mono (Pl.mono _) hs, h2⟩
theorem Sl.litCells {b m : Nat} {cl : List (nN k)} {cs : Array Value} {e : TypeId} (hm : cl.length = m) (hM : m ≤ maxLen) (hc : cs.toList = (cl.map mM).flatten) (hb : μ b = some (.cells cs e (0, 0))) : Sl (Pl mM) k μ (.slice (some ⟨b, 0, none⟩) m m) cl := by
  subst hm
  refine ⟨_, _, rfl, Nat.le_refl _, hM, fun _ => ⟨b, 0, _, _, _, rfl, hb, fun i x hx => ⟨mM x, pc x, rfl, fun j y hy => ?_⟩⟩⟩
  have := nC pc cl i x hx j y hy
  rw [← hc] at this
  simpa using this
inductive rX (Rl : iX β) (k : Nat) (μ : aY) : List Value → List β → Prop
  | nil : rX Rl k μ [] []
  | cons {ys zs : List Value} {x : β} {l : List β} : Rl μ ys x → rX Rl k μ zs l → rX Rl k μ (ys ++ zs) (x :: l)
theorem rX.cells (hD : Deep Rl k) {ys : List Value} (h : rX Rl k μ ys l) : ∃ cl : List (nN k), (cl.map mM).flatten = ys ∧ iI (fun c x => Rl μ c.1 x) cl l := by
  induction h with
  | nil => exact ⟨[], rfl, .nil⟩
  | cons h1 _ ih =>
    obtain ⟨cl, e, h2⟩ := ih
    exact ⟨hD.cell h1 :: cl, by rw [List.map_cons, List.flatten_cons, e]; rfl, .cons h1 h2⟩
theorem rJ.lit (hD : Deep Rl k) {W : World} {b m : Nat} {ys : List Value} {e : TypeId} (h : rX Rl k μ ys l) (hm : l.length = m) (hM : m ≤ maxLen) (hb : W.heap[b]? = some (.cells ys.toArray e (0, 0))) : rJ Rl k μ W (.slice (some ⟨b, 0, none⟩) m m) l := by
  obtain ⟨cl, e1, h2⟩ := h.cells hD
  exact ⟨cl, Sl.litCells (by rw [h2.length]; exact hm) hM e1.symm hb, h2⟩
theorem Sl.imp {R R' : iX β} (h : Sl R k μ v l) (hi : ∀ ys x, R μ ys x → R' μ ys x) : Sl R' k μ v l := by
  obtain ⟨A, c, rfl, h1, h2, h3⟩ := h
  refine ⟨A, c, rfl, h1, h2, fun hl => ?_⟩
  obtain ⟨b, off, cs, T, fr, rfl, hb, h4⟩ := h3 hl
  exact ⟨b, off, cs, T, fr, rfl, hb, fun i x hx => let ⟨ys, h5, h6, h7⟩ := h4 i x hx; ⟨ys, h5, hi _ _ h6, h7⟩⟩
theorem tW : ∀ (l : List Nat) (n : Nat), n ∈ l → n ≤ l.foldr max 0
  | [], n, h => by cases h
  | a :: l, n, h => by
    rcases List.mem_cons.1 h with rfl | h
    · exact Nat.le_max_left _ _
    · exact Nat.le_trans (tW l n h) (Nat.le_max_right _ _)
theorem Sl.bound {R : iX β} {Rn : Nat → iX β} (h : Sl R k μ v l) (hR : ∀ ys x, R μ ys x → ∃ n, Rn n μ ys x) (up : ∀ n m ys x, n ≤ m → Rn n μ ys x → Rn m μ ys x) : ∃ n, Sl (Rn n) k μ v l := by
  obtain ⟨A, c, rfl, h1, h2, h3⟩ := h
  by_cases hl : 0 < l.length
  · obtain ⟨b, off, cs, T, fr, rfl, hb, h4⟩ := h3 hl
    obtain ⟨ps, e1, e2⟩ := ri (P := fun i x (p : Nat × List Value) => p.2.length = k ∧ Rn p.1 μ p.2 x ∧ ∀ j y, p.2[j]? = some y → cs[off + i * k + j]? = some y) (m := l) 0 (fun i x hx => by
      obtain ⟨ys, h5, h6, h7⟩ := h4 i x hx
      obtain ⟨n, hn⟩ := hR _ _ h6
      exact ⟨(n, ys), h5, hn, by rw [Nat.zero_add]; exact h7⟩)
    refine ⟨(ps.map (·.1)).foldr max 0, _, c, rfl, h1, h2, fun _ => ⟨b, off, cs, T, fr, rfl, hb, fun i x hx => ?_⟩⟩
    obtain ⟨p, hp, h5, h6, h7⟩ := e2 i x hx
    exact ⟨p.2, h5, up _ _ _ _ (tW _ _ (List.mem_map.2 ⟨p, List.mem_of_getElem? hp, rfl⟩)) h6, by rw [Nat.zero_add] at h7; exact h7⟩
  · exact ⟨0, A, c, rfl, h1, h2, fun h => absurd h hl⟩
def bX (e : TypeId) (Rl : iX β) (k : Nat) (μ : aY) (v : Value) (l : List β) (B : List (Nat × Obj)) : Prop := ∃ cl : List (nN k), bE e mM k v cl B ∧ iI (fun c x => Rl μ c.1 x) cl l
variable {e : TypeId} {B : List (Nat × Obj)}
theorem bX.mono (hD : Deep Rl k) (h : bX e Rl k μ v l B) (hs : aW μ μ') : bX e Rl k μ' v l B := by
  obtain ⟨cl, h1, h2⟩ := h
  exact ⟨cl, h1, h2.imp (fun _ _ h => hD.mono _ _ _ _ hs h)⟩
theorem bX.nil (e : TypeId) (Rl : iX β) (k : Nat) (μ : aY) : bX e Rl k μ (.slice none 0 0) [] [] := ⟨[], bE.nil _ _ _, .nil⟩
theorem bX.lit (hD : Deep Rl k) {b m : Nat} {ys : List Value} (h : rX Rl k μ ys l) (hm : l.length = m) (hM : m ≤ maxLen) (hs : ys.length = m * k) : bX e Rl k μ (.slice (some ⟨b, 0, none⟩) m m) l [(b, .cells ys.toArray e (0, 0))] := by
  obtain ⟨cl, e1, h2⟩ := h.cells hD
  exact ⟨cl, bE.lit (by rw [h2.length]; exact hm) hM e1.symm (by simpa using hs), h2⟩
theorem bX.form (h : bX e Rl k μ v l B) : ∃ A c, v = .slice A l.length c := by
  obtain ⟨cl, h1, h2⟩ := h
  rw [← h2.length]; exact h1.form
theorem bX.len (h : bX e Rl k μ v l B) : l.length ≤ 9223372036854775807 := by
  obtain ⟨cl, h1, h2⟩ := h
  rw [← h2.length]; exact h1.len
theorem bX.nd (h : bX e Rl k μ v l B) : (B.map (·.1)).Nodup := let ⟨_, h1, _⟩ := h; h1.nd
theorem bX.isNil {n c : Nat} (h : bX e Rl k μ (.slice none n c) l B) : l = [] := by
  obtain ⟨cl, h1, h2⟩ := h
  have := h2.length
  rw [h1.isNil] at this
  exact List.eq_nil_of_length_eq_zero this.symm
theorem bX.sl (h : bX e Rl k μ v l B) (hD : Deep Rl k) (hs : aW μ μ') (hm : ∀ b o, (b, o) ∈ B → μ' b = some o) : Sl Rl k μ' v l := by
  obtain ⟨cl, h1, h2⟩ := h
  exact Sl.of_raw (h1.sl pc hm) (aW.refl _) (h2.imp (fun _ _ h => hD.mono _ _ _ _ hs h))
end
section
variable {β : Type} {Rl : iX β} {k : Nat} {μ : aY} {v : Value} {l : List β} {e : TypeId} {B : List (Nat × Obj)}
variable {dd : Bool} {F : Nat → Prop} {w W : World} {L : List (Nat × Obj)}
theorem ST.pubD {Y : List (Nat × Obj)} (hD : Deep Rl k) (hST : ST dd F w W μ (B ++ Y)) (h : bX e Rl k μ v l B) : ∃ μ', ST dd F w W μ' Y ∧ aW μ μ' ∧ Lo F w μ μ' ∧ Sl Rl k μ' v l := by
  obtain ⟨cl, h1, h2⟩ := h
  obtain ⟨μ', a1, a2, a4, a3⟩ := ST.pub1 hST h1 pc
  exact ⟨μ', a1, a2, a4, Sl.of_raw a3 (aW.refl _) (h2.imp (fun _ _ h => hD.mono _ _ _ _ a2 h))⟩
variable {P : Program} {E : Nat → Value} {d : Option Nat} {ty : TypeId} {pos : String} {af : Array Edge} {g : Option (Nat × Bool)}
theorem fN {t e' : TypeId} {x ix : Operand} {ik : IntKind} {i : Int} {x0 : β} {A : List Value → Prop} (ho : ∀ {ys}, Rl μ ys x0 → A ys)
    (ht : P.underlying t = some (.slice e')) (he : ∀ w, (sizeOf e').run P w = .ok k w) (hx : aR E x = v) (hi : aR E ix = .int ik i) (hs : Sl Rl k μ v l) (h0 : 0 ≤ i) (hl : l[i.toNat]? = some x0) :
    ∃ p, (∃ ys, A ys ∧ At μ p ys) ∧ ∀ W, dT P E ⟨d, .indexAddr t x ix, ty, pos, af, g⟩ W p W := by
  obtain ⟨p, ys, _, h2, h3, h4⟩ := zQ (d := d) (ty := ty) (pos := pos) (af := af) (g := g) ht he hx hi hs h0 hl
  exact ⟨p, ⟨ys, ho h2, h3⟩, h4⟩
theorem oD {x : Operand} {t e' : TypeId} (ht : P.underlying t = some (.slice e')) (hx : aR E x = v) (h : bX e Rl k μ v l B) : dT P E ⟨d, .call ⟨.builtin .len, #[x], #[t]⟩, ty, pos, af, g⟩ W (.int .i64 l.length) W := by
  obtain ⟨A, c, rfl⟩ := h.form
  exact qg ht hx
theorem cQ {t e' : TypeId} {x ix : Operand} {ik : IntKind} {i : Int} {x0 : β} {A : List Value → Prop} (ho : ∀ {ys}, Rl μ ys x0 → A ys)
    (ht : P.underlying t = some (.slice e')) (he : ∀ w, (sizeOf e').run P w = .ok k w) (hx : aR E x = v) (hi : aR E ix = .int ik i) (h : bX e Rl k μ v l B) (h0 : 0 ≤ i) (hl : l[i.toNat]? = some x0) :
    ∃ p, (∃ ys, A ys ∧ At (pM B) p ys ∧ pR B k p i.toNat) ∧ ∀ W, dT P E ⟨d, .indexAddr t x ix, ty, pos, af, g⟩ W p W := by
  obtain ⟨cl, h1, h2⟩ := h
  obtain ⟨c, hc, hq⟩ := h2.get hl
  obtain ⟨p, h3, h4⟩ := jh (d := d) (ty := ty) (pos := pos) (af := af) (g := g) ht he hx hi h1 h0 hc
  exact ⟨p, ⟨c.1, ho hq, h3.at h1 pc hc, h3⟩, h4⟩
theorem CF {α α' : Type} {by_ : Nat} {l m r : List α} {l' m' : List α'} (h : gT by_ l m = some r) (h1 : l'.length = l.length) (h2 : m'.length = m.length) : gT by_ l' m' = some (l' ++ m') ∧ r = l ++ m := by
  unfold gT at h ⊢
  rw [h1, h2]
  split at h
  · rename_i hh; cases h; rw [if_pos hh]; exact ⟨rfl, rfl⟩
  · cases h
theorem mJ {K : Value → World → Prop} {t : TypeId} {by_ : Nat} {z vs : Value} {m r : List β} {Y : List (Nat × Obj)} {x y : Operand} {i : TypeInfo} (hD : Deep Rl k) (hST : ST dd F w W μ (B ++ Y)) (hk0 : 0 < k)
    (ht : P.underlying t = some (.slice e)) (hi : P.info? e = some i) (hz : i.zero = some z) (hzs : z.cells.size = k) (hsz : i.size = k) (hby : i.bytes = by_) (hx : aR E x = v) (hy : aR E y = vs)
    (hR : bX e Rl k μ v l B) (hs : rJ Rl k μ W vs m) (hb : gT by_ l m = some r)
    (h : ∀ W' v' R', ST dd F w W' μ (R' ++ Y) → bX e Rl k μ v' r R' → K v' W') : fY P E ⟨d, .call ⟨.builtin .append, #[x, y], #[t, t]⟩, ty, pos, af, g⟩ W K := by
  obtain ⟨cl, h1, h2⟩ := hR
  obtain ⟨cm, h3, h4⟩ := hs
  obtain ⟨hb', rfl⟩ := CF hb h2.length h4.length
  exact kj hST pc hk0 Cu ht hi hz hzs hsz hby hx hy h1 h3 hb' (fun W' v' R' a1 a2 => h W' v' R' a1 ⟨_, a2, h2.append h4⟩)
theorem jC {K : Value → World → Prop} {Y : List (Nat × Obj)} {t : TypeId} {x y : Operand} {p : Value} {i : Nat} {x0 x1 : β} {ys : List Value} (hD : Deep Rl k) (hST : ST dd F w W μ (B ++ Y)) (h : bX e Rl k μ v l B) (hx : aR E x = p) (hy : aR E y = .agg ys.toArray) (hr : Rl μ ys x1) (hp : pR B k p i) (hl : l[i]? = some x0)
    (hS : ∀ w, (sizeOf t).run P w = .ok k w) (hK : ∀ W' R', ST dd F w W' μ (R' ++ Y) → bX e Rl k μ v (l.set i x1) R' → K undef W') : fY P E ⟨d, .store t x y, ty, pos, af, g⟩ W K := by
  obtain ⟨cl, h1, h2⟩ := h
  obtain ⟨c, hc, _⟩ := h2.get hl
  exact sw (x1 := hD.cell hr) hST h1 pc Cu hx hy rfl hp hc hS (fun W' R' a1 a2 => hK W' R' a1 ⟨_, a2, h2.set hr i⟩)
end
end Go.Proofs.YtmlncblocfcmiaaGreat
namespace Go.Proofs.YtmlncblocfcmiaaGreat
open Go.RowKit
def dO (dd : Bool) (P : Program) (f : FuncId) (args : List Value) (w : World) (μ0 : aY) (L0 : List (Nat × Obj)) (K : Value → List (Nat × Obj) → aY → Prop) : Prop :=
  Calls P f args.toArray w fun e w' => ∃ v L1 μ1, e = .returned v ∧ mN dd L0 L1 w w' ∧ aW μ0 μ1 ∧ Lo (keys L0) w μ0 μ1 ∧ aW μ1 (mW w' L1) ∧ K v L1 μ1
theorem dO.weak {dd : Bool} {P : Program} {f : FuncId} {args : List Value} {w : World} {μ0 : aY} {L0 : List (Nat × Obj)} {K : Value → List (Nat × Obj) → aY → Prop} (h : dO true P f args w μ0 L0 K) : dO dd P f args w μ0 L0 K :=
  Calls.mono h fun _ _ ⟨v, L1, μ1, h1, h2, h3⟩ => ⟨v, L1, μ1, h1, h2.weak, h3⟩
section
variable {dd : Bool} {F : Nat → Prop} {w W W' : World} {μ μ1 : aY} {L L0 L1 L2 : List (Nat × Obj)}
theorem ST.backD (h : ST dd F w W μ (L0 ++ L)) (hb : mN dd L0 L1 W W') (hl : Lo (keys L0) W μ μ1) (hs : aW μ1 (mW W' L1)) : ST dd F w W' μ1 (L1 ++ L) := by
  have h1 := h.back hb
  refine ⟨h1.os, h1.tape, h1.output, h1.drawn, h1.size, h1.old, fun b o hm => ?_, fun b o ho => ?_, h1.nd⟩
  · have := hs b o hm
    unfold mW at this
    split at this
    · cases this
    · exact this
  · obtain ⟨q1, q2, q3⟩ := h1.box b o ho
    refine ⟨q1, ?_, q3⟩
    rcases List.mem_append.1 ho with ho | ho
    · cases hm : μ1 b with
      | none => rfl
      | some x =>
        have := hs b x hm
        unfold mW at this
        rw [if_pos ⟨o, ho⟩] at this
        cases this
    · have hbx := h.box b o (List.mem_append_right _ ho)
      rw [hl b (gF hbx.1) (uq h.nd ho)]
      exact hbx.2.1
variable {P : Program} {E : Nat → Value} {d : Option Nat} {ty : TypeId} {pos : String} {af : Array Edge} {g : Option (Nat × Bool)}
theorem vz {K : Value → World → Prop} {K' : Value → List (Nat × Obj) → aY → Prop} {f : FuncId} {fv : Operand} {ax : Array Operand} {ats : Array TypeId} {caps : Array Value} {args : List Value} (L0 L2 : List (Nat × Obj)) (hST : ST dd F w W μ L) (hL : L.Perm (L0 ++ L2))
    (hf : aR E fv = .func (.func f) #[] caps) (he : ∀ args w, (callFunc f args).run P w = .ok (.enter f args) w) (ha : ax.map (aR E) ++ (#[] : Array Value) = args.toArray)
    (hc : tF L0 W → (L0.map (·.1)).Nodup → aW μ (mW W L0) → (∀ b o, (b, o) ∈ L2 → mW W L0 b = some o) → dO dd P f (args ++ caps.toList) W μ L0 K')
    (h : ∀ W' v μ' L1, ST dd F w W' μ' (L1 ++ L2) → aW μ μ' → Lo F w μ μ' → K' v L1 μ' → K v W') : fY P E ⟨d, .call ⟨.value fv, ax, ats⟩, ty, pos, af, g⟩ W K := by
  have ha' : ax.map (aR E) = args.toArray := by simpa using ha
  refine uk (args := (args ++ caps.toList).toArray) hf he (by rw [ha']; simp) (Calls.mono (hc (hST.held hL) (hST.ndup hL) (hST.subx hL) (hST.hpx_mem hL)) (fun _ W' ⟨v, L1, μ1, h1, h2, h3, h4, h5, h6⟩ => ⟨v, h1, h W' v μ1 L1 ((hST.perm hL).backD h2 h4 h5) h3 (fun b hb hF => h4 b (Nat.lt_of_lt_of_le hb hST.size) (fun ⟨o, ho⟩ => by
    rcases ((hST.perm hL).box b o (List.mem_append_left _ ho)).2.2 with q | q
    · omega
    · exact hF q)) h6⟩))
end
end Go.Proofs.YtmlncblocfcmiaaGreat
namespace Go.Proofs.YtmlncblocfcmiaaGreat
open Go.RowKit
section
variable {P : Program} {E : Nat → Value} {W : World} {d : Option Nat} {ty : TypeId} {pos : String} {af : Array Edge} {g : Option (Nat × Bool)}
  {dd : Bool} {F : Nat → Prop} {w : World} {μ : aY} {L : List (Nat × Obj)}
def uj {α : Type} (by_ : Nat) (z : α) (n : Int) : Option (List α) := if 0 ≤ n ∧ (by_ : Int) * n ≤ 140737488355328 ∧ n ≤ (maxLen : Int) then some (List.replicate n.toNat z) else none
theorem wF {α : Type} {enc : α → List Value} {k : Nat} (hk : ∀ x, (enc x).length = k) (hk0 : 0 < k) (z : α) (n : Nat) : (madeCells (enc z).toArray (n * k)).toList = ((List.replicate n z).map enc).flatten := by
  apply List.ext_getElem
  · rw [iZ hk, Array.length_toList, size_madeCells]; simp
  · intro i h1 h2
    rw [Array.length_toList, size_madeCells] at h1
    have hq : i / k < n := by rw [Nat.div_lt_iff_lt_mul hk0]; exact h1
    have hr : i % k < (enc z).length := by rw [hk]; exact Nat.mod_lt _ hk0
    have e1 := nC hk (List.replicate n z) (i / k) z (by rw [List.getElem?_replicate, if_pos hq]) (i % k) _ (List.getElem?_eq_getElem hr)
    rw [show i / k * k + i % k = i by rw [Nat.mul_comm]; exact Nat.div_add_mod i k] at e1
    rw [List.getElem?_eq_getElem h2] at e1
    have e2 := Option.some.inj e1
    rw [e2]
    simp only [madeCells, Array.getElem_toList, Array.getElem_map, Array.getElem_range, List.size_toArray, hk]
    rw [getElem!_pos _ _ (by simpa using hr)]
    simp
theorem zk {K : Value → World → Prop} {α : Type} {e t : TypeId} {enc : α → List Value} {k by_ : Nat} {zv : Value} {n : Int} {ik : IntKind} {z : α} {r : List α} {x y : Operand} {i : TypeInfo}
    (hST : ST dd F w W μ L) (hk : ∀ x, (enc x).length = k) (hk0 : 0 < k) (ht : P.underlying t = some (.slice e)) (hi : P.info? e = some i) (hz : i.zero = some zv) (hsz : i.size = k) (hby : i.bytes = by_) (hc : zv.cells = (enc z).toArray)
    (hx : aR E x = .int ik n) (hy : aR E y = .int ik n) (hb : uj by_ z n = some r)
    (h : ∀ W' v' R', ST dd F w W' μ (R' ++ L) → bE e enc k v' r R' → K v' W') : fY P E ⟨d, .makeSlice t x y, ty, pos, af, g⟩ W K := by
  unfold uj at hb
  split at hb
  case isFalse => cases hb
  rename_i hbb
  cases hb
  obtain ⟨h0, h1, h2⟩ := hbb
  subst hsz; subst hby
  have hM : n.toNat ≤ maxLen := by omega
  have hr := run_make (P := P) W t e i zv ht hi hz ik ik n n h0 (Int.le_refl _) (by omega) (by simp only [maxLen] at h2; omega)
  refine .inl ⟨.slice (some ⟨W.heap.size, 0, none⟩) n.toNat n.toNat, W.alloc (.cells (madeCells zv.cells (n.toNat * i.size)) e), ?_, h _ _ [(W.heap.size, .cells (madeCells zv.cells (n.toNat * i.size)) e)] (hST.alloc _) ?_⟩
  · show (do pure (.value (← Instr.makeSlice t (aR E x) (aR E y))) : Sem Next).run P W = _
    rw [hx, hy]
    simp only [Sem.run_bind, hr, Result.andThen_ok, Sem.run_pure]
  · exact bE.lit (by rw [List.length_replicate]) hM (by rw [hc]; exact wF hk hk0 z _) (by rw [size_madeCells])
end
theorem lz.cell1 {κ γ : Type} {kenc : κ → Value} {Q : Value → γ → List (Nat × Obj) → Prop} {μ : aY} {v : Value} {l : List (κ × γ)} (h : lz kenc Q μ v l) : v.oneCell' = true := by
  obtain ⟨lv, R, h, _⟩ := h
  obtain ⟨m, rfl⟩ := h.form
  rfl
theorem nn.cell1 {κ β : Type} {kenc : κ → Value} {vf : β → Value} {μ : aY} {v : Value} {l : List (κ × β)} (h : nn kenc vf μ v l) : v.oneCell' = true := by
  obtain ⟨m, rfl⟩ := h.form
  rfl
end Go.Proofs.YtmlncblocfcmiaaGreat
