/- a part of a proof of RevokeStops -/
import Derived.WalkKit
import Derived.WalkLawsBesides
import Derived.Maps.AppendAt
import Derived.OrdersHeld
import Derived.Laws.IdiomStrings
import Derived.Maps.RangeRun
import Derived.Lib.BytesEntry
import Derived.Lib.Bytealg
import Derived.Laws.Externs
import Derived.ChangeKeysEq
import Derived.Deep.AppendSrc
set_option linter.all false
namespace Go.Proofs.YtmlncblocfcmiaaGreat
open Go.RowKit
def upd (E : Nat → Value) (d : Nat) (v : Value) : Nat → Value := fun t => if t = d then v else E t
def evE (E : Nat → Value) : Operand → Value
  | .tmp t => E t
  | .const v => v
  | .global g => .pointer (some ⟨g, 0, none⟩)
  | .func f => .func (.func f) #[] #[]
def Ag (n : Nat) (a : Act) (E : Nat → Value) : Prop := a.tmps.size = n ∧ a.defers = [] ∧ ∀ t, a.tmps.getD t undef = E t
section
variable {n : Nat} {a : Act} {E : Nat → Value}
theorem Ag.eval (h : Ag n a E) : a.eval = evE E := by
  funext x
  cases x with
  | tmp t => exact h.2.2 t
  | const v => rfl
  | global g => rfl
  | func f => rfl
theorem Ag.put (h : Ag n a E) {d : Nat} (hd : d < n) (v : Value) : Ag n (a.put (some d) v) (upd E d v) := by
  refine ⟨by simp [Act.put, h.1], h.2.1, fun t => ?_⟩
  have h3 := h.2.2 t
  simp only [Act.put, upd]
  by_cases ht : t = d
  · subst ht
    simp [h.1, hd]
  · have : ¬ d = t := fun e => ht e.symm
    rw [if_neg ht, ← h3]
    simp [Array.getD_eq_getD_getElem?, this]
theorem Ag.put_none (h : Ag n a E) (v : Value) : Ag n (a.put none v) E := h
theorem Ag.yield (h : Ag n a E) {ops : Array Oper} {j t : Nat} {b : Bool} (hj : (ops[j]?).bind (·.dst) = some t) (ht : t < n) (hv : E t = .bool b) : yielded ops a.tmps j = some b := by
  have h3 := h.2.2 t
  have hs : a.tmps[t]? = some (E t) := by
    rw [← h3]
    simp [Array.getD_eq_getD_getElem?, h.1, ht]
  simp [yielded, hj, hs, hv]
end
abbrev Post := Exit → (Nat → Value) → World → Prop
def lift (n : Nat) (Q : Post) : Exit → Act → World → Prop
  | .panic _, _, _ => False
  | .outgrown, _, _ => False
  | e, a, w => ∃ E, Ag n a E ∧ Q e E w
def CW (P : Program) (n : Nat) (c : Code) (Q : Post) (E : Nat → Value) (W : World) : Prop := ∀ a, Ag n a E → c.wp P (lift n Q) a W
def LW (P : Program) (n : Nat) (ops : Array Oper) (Q : Post) (l : List Oper) (E : Nat → Value) (W : World) : Prop := ∀ a, Ag n a E → wpList P ops (lift n Q) l a W
def seqQ (K : (Nat → Value) → World → Prop) (Q : Post) : Post
  | .normal, E, W => K E W
  | e, E, W => Q e E W
def blockQ (id : Nat) (Q : Post) : Post
  | .exit j, E, W => if j = id then Q .normal E W else Q (.exit j) E W
  | e, E, W => Q e E W
section
variable {P : Program} {n : Nat} {Q : Post} {E : Nat → Value} {W : World} {c x y : Code} {ops : Array Oper} {rest : List Oper} {o : Oper}
theorem CW_mono {Q' : Post} (h : CW P n c Q E W) (hq : ∀ e E W, Q e E W → Q' e E W) : CW P n c Q' E W := fun a ha =>
  wp_mono (h a ha) (fun e _ _ h => by
    cases e with
    | panic c => exact h
    | outgrown => exact h
    | _ => obtain ⟨E', ha', hq'⟩ := h; exact ⟨E', ha', hq _ _ _ hq'⟩)
theorem CW_seq (h : CW P n x (seqQ (fun E W => CW P n y Q E W) Q) E W) : CW P n (.seq x y) Q E W := fun a ha =>
  wp_seq (wp_mono (h a ha) (fun e a' w' h => by
    cases e with
    | normal => obtain ⟨E', ha', hq⟩ := h; exact hq a' ha'
    | _ => exact h))
theorem CW_skip (h : Q .normal E W) : CW P n .skip Q E W := fun _ ha => wp_skip ⟨E, ha, h⟩
theorem CW_ret (h : Q .ret E W) : CW P n .ret Q E W := fun _ ha => wp_ret ⟨E, ha, h⟩
theorem CW_exit {id : Nat} (h : Q (.exit id) E W) : CW P n (.exit id) Q E W := fun _ ha => wp_exit ⟨E, ha, h⟩
theorem CW_block {id : Nat} (h : CW P n c (blockQ id Q) E W) : CW P n (.block id c) Q E W := fun a ha =>
  wp_block (wp_mono (h a ha) (fun e a' w' h => by
    cases e with
    | exit j =>
      obtain ⟨E', ha', hq⟩ := h
      simp only [Exit.inBlock]
      simp only [blockQ] at hq
      split at hq
      · rename_i hj; rw [if_pos hj]; exact ⟨E', ha', hq⟩
      · rename_i hj; rw [if_neg hj]; exact ⟨E', ha', hq⟩
    | _ => exact h))
theorem CW_if {co : Operand} {b : Bool} (hc : evE E co = .bool b) (ht : b = true → CW P n x Q E W) (hf : b = false → CW P n y Q E W) : CW P n (.cond co x y) Q E W := fun a ha => by
  refine wp_cond_split (t := b) (by rw [ha.eval]; exact hc) (fun h => ht h a ha) (fun h => hf h a ha)
theorem CW_if_true {co : Operand} (hc : evE E co = .bool true) (h : CW P n x Q E W) : CW P n (.cond co x y) Q E W := CW_if hc (fun _ => h) (fun h => by cases h)
theorem CW_if_false {co : Operand} (hc : evE E co = .bool false) (h : CW P n y Q E W) : CW P n (.cond co x y) Q E W := CW_if hc (fun h => by cases h) (fun _ => h)
theorem CW_region {id : Nat} {l : List Oper} (h : LW P n l.toArray Q l E W) : CW P n (.region id l.toArray false) Q E W := fun a ha => wp_region_lit (h a ha)
theorem LW_nil (h : Q .normal E W) : LW P n ops Q [] E W := fun _ ha => wpList_nil ⟨E, ha, h⟩
theorem wp_loop_ghost {P : Program} {c : Code} {Q : Exit → Act → World → Prop} {a : Act} {w : World} (I : Nat → Act → World → Prop) (m : Nat) (h₀ : I m a w)
    (round : ∀ m a w, I m a w → c.wp P (Exit.then (fun a' w' => ∃ m', m' < m ∧ I m' a' w') Q) a w) : (Code.loop c).wp P Q a w := by
  intro b k cs
  have key : ∀ m a w, I m a w → ∃ e a' w', Q e a' w' ∧ Arrives P (lone (b.at a (.code c :: .inLoop c :: k)) cs w) b k cs e a' w' := by
    intro m
    induction m using Nat.strongRecOn with
    | _ m ih =>
      intro a w hI
      obtain ⟨e, a₁, w₁, hq, harr⟩ := round m a w hI b (.inLoop c :: k) cs
      cases e with
      | normal =>
        obtain ⟨m', hlt, hI₁⟩ := hq
        obtain ⟨e₂, a₂, w₂, hq₂, harr₂⟩ := ih m' hlt a₁ w₁ hI₁
        exact ⟨e₂, a₂, w₂, hq₂, .of_steps (Steps.trans harr (.one step_inLoop)) harr₂⟩
      | exit id => exact ⟨_, a₁, w₁, hq, .pass (x := .inLoop c) rfl (fun _ _ => .inl (by simp)) harr⟩
      | goto l => exact ⟨_, a₁, w₁, hq, .pass (x := .inLoop c) rfl (fun _ _ => .inl (by simp)) harr⟩
      | ret => exact ⟨_, a₁, w₁, hq, .pass (x := .inLoop c) rfl (fun _ _ => .inl (by simp)) harr⟩
      | panic ch => exact ⟨_, a₁, w₁, hq, .pass (x := .inLoop c) rfl (fun _ _ => .inl (by simp)) harr⟩
      | outgrown => exact ⟨_, a₁, w₁, hq, .pass (x := .inLoop c) rfl (fun _ _ => .inl (by simp)) harr⟩
  obtain ⟨e, a', w', hq, harr⟩ := key m a w h₀
  exact ⟨e, a', w', hq, .of_steps (.one step_loop) harr⟩
theorem CW_loop (I : Nat → (Nat → Value) → World → Prop) (m : Nat) (h₀ : I m E W)
    (round : ∀ m E W, I m E W → CW P n c (seqQ (fun E' W' => ∃ m', m' < m ∧ I m' E' W') Q) E W) : CW P n (.loop c) Q E W := fun a ha =>
  wp_loop_ghost (fun m a w => ∃ E, Ag n a E ∧ I m E w) m ⟨E, ha, h₀⟩ (fun m a w ⟨E, ha, hI⟩ =>
    wp_mono (round m E w hI a ha) (fun e a' w' h => by
      cases e with
      | normal => obtain ⟨E', ha', m', hlt, hI'⟩ := h; exact ⟨m', hlt, E', ha', hI'⟩
      | _ => exact h))
def Wanted (n : Nat) (ops : Array Oper) (E : Nat → Value) (o : Oper) : Prop :=
  o.guard = none ∨ ∃ j want t, o.guard = some (j, want) ∧ (ops[j]?).bind (·.dst) = some t ∧ t < n ∧ E t = .bool want
theorem Wanted.of {a : Act} (h : Wanted n ops E o) (ha : Ag n a E) : Region.wanted o (yielded ops a.tmps) = true := by
  rcases h with h | ⟨j, want, t, hg, hj, ht, hE⟩
  · simp [Region.wanted, h]
  · simp [Region.wanted, hg, ha.yield hj ht hE]
theorem LW_val {d : Nat} {v : Value} {W' : World} (hw : Wanted n ops E o) (hd : o.dst = some d) (hn : d < n) (hr : (execOp (evE E) o).run P W = .ok (.value v) W')
    (h : LW P n ops Q rest (upd E d v) W') : LW P n ops Q (o :: rest) E W := fun a ha => by
  unfold wpList
  rw [if_pos (hw.of ha)]
  refine .inl ?_
  unfold Oper.wp
  rw [ha.eval, hr, Oper.upon_value, hd]
  exact h _ (ha.put hn v)
theorem LW_skipv {W' : World} (hw : Wanted n ops E o) (hd : o.dst = none) (hr : (execOp (evE E) o).run P W = .ok .skip W')
    (h : LW P n ops Q rest E W') : LW P n ops Q (o :: rest) E W := fun a ha => by
  unfold wpList
  rw [if_pos (hw.of ha)]
  refine .inl ?_
  unfold Oper.wp
  rw [ha.eval, hr, Oper.upon_skip, hd]
  exact h _ (ha.put_none _)
theorem LW_enter {f : FuncId} {args : Array Value} {d : Nat} (hw : Wanted n ops E o) (hd : o.dst = some d) (hn : d < n) (hr : (execOp (evE E) o).run P W = .ok (.enter f args) W)
    (h : Calls P f args W fun e w' => ∃ v, e = .returned v ∧ LW P n ops Q rest (upd E d v) w') : LW P n ops Q (o :: rest) E W := fun a ha => by
  unfold wpList
  rw [if_pos (hw.of ha)]
  refine .inl ?_
  unfold Oper.wp
  rw [ha.eval, hr, Oper.upon_enter]
  refine h.mono ?_
  rintro e w' ⟨v, rfl, hl⟩
  simp only [hd]
  exact hl _ (ha.put hn v)
theorem LW_no {d j t : Nat} {want : Bool} (hd : o.dst = some d) (hn : d < n) (hg : o.guard = some (j, want)) (hj : (ops[j]?).bind (·.dst) = some t) (ht : t < n) (hE : E t = .bool (!want))
    (h : LW P n ops Q rest (upd E d undef) W) : LW P n ops Q (o :: rest) E W := fun a ha => by
  unfold wpList
  have hy := ha.yield hj ht hE
  rw [if_neg (by simp [Region.wanted, hg, hy])]
  rw [hd]
  exact h _ (ha.put hn _)
end
end Go.Proofs.YtmlncblocfcmiaaGreat
namespace Go.Proofs.YtmlncblocfcmiaaGreat
open Go.RowKit
variable {dd : Bool}
abbrev Mem := Nat → Option Obj
def hp (W : World) : Mem := fun b => W.heap[b]?
def Low (dd : Bool) (a b : Nat) : Prop := dd = true → a ≤ b
theorem Low.of {dd : Bool} {a b : Nat} (h : a ≤ b) : Low dd a b := fun _ => h
theorem Low.trans {dd : Bool} {a b c : Nat} (h : Low dd a b) (k : Low dd b c) : Low dd a c := fun e => Nat.le_trans (h e) (k e)
structure Ex (dd : Bool) (w W : World) : Prop where
  os : W.os = w.os
  tape : W.tape = w.tape
  output : W.output = w.output
  drawn : Low dd w.drawn W.drawn
  size : w.heap.size ≤ W.heap.size
  old : ∀ b, b < w.heap.size → W.heap[b]? = w.heap[b]?
theorem Ex.refl (w : World) : Ex dd w w := ⟨rfl, rfl, rfl, Low.of (Nat.le_refl _), Nat.le_refl _, fun _ _ => rfl⟩
theorem Ex.trans {a b c : World} (h : Ex dd a b) (k : Ex dd b c) : Ex dd a c :=
  ⟨k.os.trans h.os, k.tape.trans h.tape, k.output.trans h.output, Low.trans h.drawn k.drawn, Nat.le_trans h.size k.size, fun i hi => (k.old i (Nat.lt_of_lt_of_le hi h.size)).trans (h.old i hi)⟩
theorem Ex.drew (w : World) : Ex dd w w.drew := ⟨rfl, rfl, rfl, Low.of (Nat.le_succ _), Nat.le_refl _, fun _ _ => rfl⟩
theorem Ex.alloc (w : World) (o : Obj) : Ex dd w (w.alloc o) := ⟨rfl, rfl, rfl, Low.of (Nat.le_refl _), by show w.heap.size ≤ (w.heap.push o).size; simp, fun k hk => Below.heap_alloc w o k hk⟩
theorem Ex.weak {w W : World} (h : Ex true w W) : Ex dd w W := ⟨h.os, h.tape, h.output, Low.of (h.drawn rfl), h.size, h.old⟩
def Sub (μ μ' : Mem) : Prop := ∀ b o, μ b = some o → μ' b = some o
theorem Sub.refl (μ : Mem) : Sub μ μ := fun _ _ h => h
theorem Sub.trans {a b c : Mem} (h : Sub a b) (k : Sub b c) : Sub a c := fun x o hx => k x o (h x o hx)
structure ST (dd : Bool) (F : Nat → Prop) (w W : World) (μ : Mem) (L : List (Nat × Obj)) : Prop where
  os : W.os = w.os
  tape : W.tape = w.tape
  output : W.output = w.output
  drawn : Low dd w.drawn W.drawn
  size : w.heap.size ≤ W.heap.size
  old : ∀ b, b < w.heap.size → ¬ F b → W.heap[b]? = w.heap[b]?
  mem : ∀ b o, μ b = some o → W.heap[b]? = some o
  box : ∀ b o, (b, o) ∈ L → W.heap[b]? = some o ∧ μ b = none ∧ (w.heap.size ≤ b ∨ F b)
  nd : (L.map (·.1)).Nodup
def NoF : Nat → Prop := fun _ => False
theorem ST.start (w : World) : ST dd NoF w w (hp w) [] :=
  ⟨rfl, rfl, rfl, Low.of (Nat.le_refl _), Nat.le_refl _, fun _ _ _ => rfl, fun _ _ h => h, fun _ _ h => (by cases h), by simp⟩
section
variable {F : Nat → Prop} {w W W' : World} {μ μ' : Mem} {L L' : List (Nat × Obj)}
theorem ST.ex (h : ST dd NoF w W μ L) : Ex dd w W := ⟨h.os, h.tape, h.output, h.drawn, h.size, fun b hb => h.old b hb (fun x => x)⟩
theorem heap_new (W : World) (o : Obj) : (W.alloc o).heap[W.heap.size]? = some o := heap_alloc_new W o
theorem lt_of_heap {W : World} {b : Nat} {o : Obj} (h : W.heap[b]? = some o) : b < W.heap.size := (Array.getElem?_eq_some_iff.1 h).1
theorem ST.drew (h : ST dd F w W μ L) : ST dd F w W.drew μ L :=
  ⟨h.os, h.tape, h.output, Low.trans h.drawn (Low.of (Nat.le_succ _)), h.size, h.old, h.mem, h.box, h.nd⟩
theorem ST.box_lt (h : ST dd F w W μ L) {b : Nat} {o : Obj} (hb : (b, o) ∈ L) : b < W.heap.size := lt_of_heap (h.box b o hb).1
theorem ST.alloc (h : ST dd F w W μ L) (o : Obj) : ST dd F w (W.alloc o) μ ((W.heap.size, o) :: L) := by
  refine ⟨h.os, h.tape, h.output, h.drawn, Nat.le_trans h.size (Ex.alloc (dd := true) W o).size, fun b hb hF => ?_, fun b o' hb => ?_, fun b o' hb => ?_, ?_⟩
  · rw [(Ex.alloc (dd := true) W o).old b (Nat.lt_of_lt_of_le hb h.size)]; exact h.old b hb hF
  · have := h.mem b o' hb
    rw [(Ex.alloc (dd := true) W o).old b (lt_of_heap this)]; exact this
  · rcases List.mem_cons.1 hb with e | hb
    · cases e
      refine ⟨heap_new W o, ?_, .inl h.size⟩
      cases hm : μ W.heap.size with
      | none => rfl
      | some x => have := lt_of_heap (h.mem _ _ hm); omega
    · obtain ⟨h1, h2, h3⟩ := h.box b o' hb
      exact ⟨by rw [(Ex.alloc (dd := true) W o).old b (lt_of_heap h1)]; exact h1, h2, h3⟩
  · simp only [List.map_cons, List.nodup_cons]
    refine ⟨fun hm => ?_, h.nd⟩
    obtain ⟨⟨b, o'⟩, hb, e⟩ := List.mem_map.1 hm
    have := h.box_lt hb
    simp at e
    omega
theorem ST.put {A B : List (Nat × Obj)} {b : Nat} {o o' : Obj} (h : ST dd F w W μ (A ++ (b, o) :: B)) (hW : W'.os = W.os ∧ W'.tape = W.tape ∧ W'.output = W.output ∧ W.drawn ≤ W'.drawn ∧ W'.heap.size = W.heap.size)
    (hs : ∀ k, k ≠ b → W'.heap[k]? = W.heap[k]?) (hb : W'.heap[b]? = some o') : ST dd F w W' μ (A ++ (b, o') :: B) := by
  obtain ⟨h1, h2, h3, h4, h5⟩ := hW
  have hb0 := h.box b o (by simp)
  have hnd := h.nd
  simp only [List.map_append, List.map_cons] at hnd
  have hnA : ∀ x o, (x, o) ∈ A → x ≠ b := fun x o hx e => by
    subst e
    have := (List.nodup_append.1 hnd).2.2 x (List.mem_map.2 ⟨_, hx, rfl⟩) x (by simp)
    exact this rfl
  have hnB : ∀ x o, (x, o) ∈ B → x ≠ b := fun x o hx e => by
    subst e
    have := (List.nodup_cons.1 (List.nodup_append.1 hnd).2.1).1
    exact this (List.mem_map.2 ⟨_, hx, rfl⟩)
  refine ⟨h1.trans h.os, h2.trans h.tape, h3.trans h.output, Low.trans h.drawn (Low.of h4), by rw [h5]; exact h.size, fun k hk hF => ?_, fun k x hk => ?_, fun k x hk => ?_, by simpa using hnd⟩
  · rw [hs k (fun e => by subst e; rcases hb0.2.2 with h | h; omega; exact hF h)]
    exact h.old k hk hF
  · rw [hs k (fun e => by subst e; rw [hb0.2.1] at hk; cases hk)]
    exact h.mem k x hk
  · rcases List.mem_append.1 hk with hk | hk
    · rw [hs k (hnA k x hk)]; exact h.box k x (by simp [hk])
    · rcases List.mem_cons.1 hk with e | hk
      · cases e; exact ⟨hb, hb0.2⟩
      · rw [hs k (hnB k x hk)]; exact h.box k x (by simp [hk])
def Lo (F : Nat → Prop) (w : World) (μ μ' : Mem) : Prop := ∀ b, b < w.heap.size → ¬ F b → μ' b = μ b
theorem Lo.refl {F : Nat → Prop} {w : World} {μ : Mem} : Lo F w μ μ := fun _ _ _ => rfl
theorem Lo.trans {F : Nat → Prop} {w : World} {a b c : Mem} (h : Lo F w a b) (k : Lo F w b c) : Lo F w a c := fun x hx hF => (k x hx hF).trans (h x hx hF)
def grow (μ : Mem) (W W' : World) : Mem := fun b => if b < W.heap.size then μ b else W'.heap[b]?
theorem ST.mu_lt (h : ST dd F w W μ L) {b : Nat} {o : Obj} (hb : μ b = some o) : b < W.heap.size := lt_of_heap (h.mem b o hb)
theorem ST.call (h : ST dd F w W μ L) (hx : Ex dd W W') : ST dd F w W' (grow μ W W') L := by
  refine ⟨hx.os.trans h.os, hx.tape.trans h.tape, hx.output.trans h.output, Low.trans h.drawn hx.drawn, Nat.le_trans h.size hx.size, fun b hb hF => ?_, fun b o hb => ?_, fun b o hb => ?_, h.nd⟩
  · rw [hx.old b (Nat.lt_of_lt_of_le hb h.size)]; exact h.old b hb hF
  · unfold grow at hb
    split at hb
    · rename_i hlt; rw [hx.old b hlt]; exact h.mem b o hb
    · exact hb
  · obtain ⟨h1, h2, h3⟩ := h.box b o hb
    exact ⟨by rw [hx.old b (lt_of_heap h1)]; exact h1, by unfold grow; rw [if_pos (lt_of_heap h1)]; exact h2, h3⟩
theorem ST.grow_sub (h : ST dd F w W μ L) (W' : World) : Sub μ (grow μ W W') := fun b o hb => by
  unfold grow; rw [if_pos (h.mu_lt hb)]; exact hb
theorem ST.weak (h : ST dd F w W μ' L) (hs : Sub μ μ') : ST dd F w W μ L :=
  ⟨h.os, h.tape, h.output, h.drawn, h.size, h.old, fun b o hb => h.mem b o (hs b o hb), fun b o hb => by
    obtain ⟨h1, h2, h3⟩ := h.box b o hb
    refine ⟨h1, ?_, h3⟩
    cases hm : μ b with
    | none => rfl
    | some x => (have := hs b x hm; rw [h2] at this; cases this), h.nd⟩
theorem ST.call0 (h : ST dd F w W μ L) (hx : Ex dd W W') : ST dd F w W' μ L := (h.call hx).weak (h.grow_sub W')
theorem ST.sub_hp (h : ST dd F w W μ L) : Sub μ (hp W) := h.mem
def pub (μ : Mem) (b : Nat) (o : Obj) : Mem := fun k => if k = b then some o else μ k
theorem ST.publish {A B : List (Nat × Obj)} {b : Nat} {o : Obj} (h : ST dd F w W μ (A ++ (b, o) :: B)) : ST dd F w W (pub μ b o) (A ++ B) := by
  have hb0 := h.box b o (by simp)
  have hnd := h.nd
  simp only [List.map_append, List.map_cons] at hnd
  have hne : ∀ x y, (x, y) ∈ A ++ B → x ≠ b := fun x y hx e => by
    subst e
    rcases List.mem_append.1 hx with hx | hx
    · exact (List.nodup_append.1 hnd).2.2 x (List.mem_map.2 ⟨_, hx, rfl⟩) x (by simp) rfl
    · exact (List.nodup_cons.1 (List.nodup_append.1 hnd).2.1).1 (List.mem_map.2 ⟨_, hx, rfl⟩)
  refine ⟨h.os, h.tape, h.output, h.drawn, h.size, h.old, fun k x hk => ?_, fun k x hk => ?_, ?_⟩
  · unfold pub at hk
    split at hk
    · rename_i e; cases hk; rw [e]; exact hb0.1
    · exact h.mem k x hk
  · have hk' : (k, x) ∈ A ++ (b, o) :: B := by
      rcases List.mem_append.1 hk with h | h <;> simp [h]
    obtain ⟨h1, h2, h3⟩ := h.box k x hk'
    exact ⟨h1, by unfold pub; rw [if_neg (hne k x hk)]; exact h2, h3⟩
  · have : (A ++ B).Sublist (A ++ (b, o) :: B) := List.Sublist.append (List.Sublist.refl A) (List.sublist_cons_self _ _)
    exact List.Nodup.sublist (this.map _) h.nd
theorem ST.pub_sub {A B : List (Nat × Obj)} {b : Nat} {o : Obj} (h : ST dd F w W μ (A ++ (b, o) :: B)) : Sub μ (pub μ b o) := fun k x hk => by
  unfold pub
  split
  · rename_i e; subst e; rw [(h.box k o (by simp)).2.1] at hk; cases hk
  · exact hk
theorem ST.lo_pub {A B : List (Nat × Obj)} {b : Nat} {o : Obj} (h : ST dd F w W μ (A ++ (b, o) :: B)) : Lo F w μ (pub μ b o) := fun k hk hF => by
  refine if_neg (fun e => ?_)
  subst e
  rcases (h.box k o (by simp)).2.2 with hg | hg
  · omega
  · exact hF hg
theorem ST.drop {A B : List (Nat × Obj)} {p : Nat × Obj} (h : ST dd F w W μ (A ++ p :: B)) : ST dd F w W μ (A ++ B) :=
  (h.publish (b := p.1) (o := p.2)).weak h.pub_sub
end
abbrev Rep (α : Type) := Mem → List Value → α → Prop
def Sl {α : Type} (R : Rep α) (k : Nat) (μ : Mem) (v : Value) (l : List α) : Prop :=
  ∃ A c, v = .slice A l.length c ∧ l.length ≤ c ∧ c ≤ maxLen ∧ (0 < l.length → ∃ b off cs T fr, A = some ⟨b, off, none⟩ ∧ μ b = some (.cells cs T fr) ∧
    ∀ i x, l[i]? = some x → ∃ ys, ys.length = k ∧ R μ ys x ∧ ∀ j y, ys[j]? = some y → cs[off + i * k + j]? = some y)
def At (μ : Mem) (v : Value) (ys : List Value) : Prop :=
  ∃ b off cs T fr, v = .pointer (some ⟨b, off, none⟩) ∧ μ b = some (.cells cs T fr) ∧ ∀ j y, ys[j]? = some y → cs[off + j]? = some y
def Fr (B : Nat) (v : Value) : Prop := ∀ b, v.ownBlock = some b → B ≤ b
def MonoR {α : Type} (R : Rep α) : Prop := ∀ μ μ' ys x, Sub μ μ' → R μ ys x → R μ' ys x
def Pl {α : Type} (enc : α → List Value) : Rep α := fun _ ys x => ys = enc x
theorem Pl.mono {α : Type} (enc : α → List Value) : MonoR (Pl enc) := fun _ _ _ _ _ h => h
theorem Sl.mono {α : Type} {R : Rep α} (hR : MonoR R) {k : Nat} {μ μ' : Mem} {v : Value} {l : List α} (h : Sl R k μ v l) (hs : Sub μ μ') : Sl R k μ' v l := by
  obtain ⟨A, c, h1, h2, h3, h4⟩ := h
  refine ⟨A, c, h1, h2, h3, fun hl => ?_⟩
  obtain ⟨b, off, cs, T, fr, h5, h6, h7⟩ := h4 hl
  exact ⟨b, off, cs, T, fr, h5, hs _ _ h6, fun i x hx => let ⟨ys, h8, h9, h10⟩ := h7 i x hx; ⟨ys, h8, hR _ _ _ _ hs h9, h10⟩⟩
theorem At.mono {μ μ' : Mem} {v : Value} {ys : List Value} (h : At μ v ys) (hs : Sub μ μ') : At μ' v ys := by
  obtain ⟨b, off, cs, T, fr, h1, h2, h3⟩ := h
  exact ⟨b, off, cs, T, fr, h1, hs _ _ h2, h3⟩
theorem Sl.len {α : Type} {R : Rep α} {k : Nat} {μ : Mem} {v : Value} {l : List α} (h : Sl R k μ v l) : l.length ≤ 9223372036854775807 := by
  obtain ⟨A, c, h1, h2, h3, h4⟩ := h
  unfold maxLen at h3
  omega
theorem Sl.nil {α : Type} (R : Rep α) (k : Nat) (μ : Mem) : Sl R k μ (.slice none 0 0) [] := ⟨none, 0, rfl, Nat.le_refl _, by decide, fun h => absurd h (by simp)⟩
theorem Fr.mono {B B' : Nat} {v : Value} (h : Fr B v) (hB : B' ≤ B) : Fr B' v := fun b hb => Nat.le_trans hB (h b hb)
theorem Fr.nil (B : Nat) : Fr B (.slice none 0 0) := fun b hb => by simp [Value.ownBlock] at hb
end Go.Proofs.YtmlncblocfcmiaaGreat
namespace Go.Proofs.YtmlncblocfcmiaaGreat
open Go.RowKit
variable {dd : Bool}
section
variable {P : Program} {n : Nat} {Q : Post} {E : Nat → Value} {W : World} {ops : Array Oper} {rest : List Oper}
  {d : Option Nat} {ty : TypeId} {pos : String} {af : Array Edge} {g : Option (Nat × Bool)}
  {F : Nat → Prop} {w : World} {μ : Mem} {L : List (Nat × Obj)}
def Runs (P : Program) (E : Nat → Value) (o : Oper) (W : World) (v : Value) (W' : World) : Prop := (execOp (evE E) o).run P W = .ok (.value v) W'
theorem LW_v {o : Oper} {dd : Nat} {v : Value} (hw : Wanted n ops E o) (hd : o.dst = some dd) (hn : dd < n) (hr : Runs P E o W v W) (h : LW P n ops Q rest (upd E dd v) W) : LW P n ops Q (o :: rest) E W := LW_val hw hd hn hr h
theorem R_move {x : Operand} {v : Value} (hx : evE E x = v) : Runs P E ⟨d, .move x, ty, pos, af, g⟩ W v W := by rw [← hx]; rfl
theorem R_assign {x : Operand} {v : Value} (hx : evE E x = v) : Runs P E ⟨d, .assign x, ty, pos, af, g⟩ W v W := by rw [← hx]; rfl
theorem R_pickT {c x y : Operand} {v : Value} (hc : evE E c = .bool true) (hv : evE E x = v) : Runs P E ⟨d, .pick c x y, ty, pos, af, g⟩ W v W := by
  show (do pure (.value (if ← asBool (evE E c) then evE E x else evE E y)) : Sem Next).run P W = _
  rw [hc, ← hv]; simp [asBool]
theorem R_pickF {c x y : Operand} {v : Value} (hc : evE E c = .bool false) (hv : evE E y = v) : Runs P E ⟨d, .pick c x y, ty, pos, af, g⟩ W v W := by
  show (do pure (.value (if ← asBool (evE E c) then evE E x else evE E y)) : Sem Next).run P W = _
  rw [hc, ← hv]; simp [asBool]
theorem R_extract {x : Operand} {i : Nat} {vs : Array Value} {v : Value} (hx : evE E x = .tuple vs) (hv : vs[i]? = some v) : Runs P E ⟨d, .extract x i, ty, pos, af, g⟩ W v W := by
  show (do pure (.value (← Instr.extract (evE E x) i)) : Sem Next).run P W = _
  rw [hx]; simp [Instr.extract, hv]
theorem R_not {u : TypeId} {x : Operand} {b : Bool} (hx : evE E x = .bool b) : Runs P E ⟨d, .unOp .not u x, ty, pos, af, g⟩ W (.bool !b) W := by
  show (do pure (.value (← Op.unary .not (evE E x))) : Sem Next).run P W = _
  rw [hx]; simp [Op.unary]
theorem R_makeFunc {fn : Fn} {first caps : Array Operand} {v : Value} (hv : .func fn (first.map (evE E)) (caps.map (evE E)) = v) : Runs P E ⟨d, .makeFunc fn first caps, ty, pos, af, g⟩ W v W := by
  show (do pure (.value (← Instr.makeFunc fn (first.map (evE E)) (caps.map (evE E)))) : Sem Next).run P W = _
  rw [← hv]; simp [Instr.makeFunc]
def intOp (k : IntKind) (op : BinOp) (a b : Int) : Option Value :=
  match op with
  | .eql => some (.bool (a == b))
  | .neq => some (.bool (a != b))
  | .lss => some (.bool (decide (a < b)))
  | .leq => some (.bool (decide (a ≤ b)))
  | .gtr => some (.bool (decide (a > b)))
  | .geq => some (.bool (decide (a ≥ b)))
  | .add => some (.int k (k.wrap (a + b)))
  | .sub => some (.int k (k.wrap (a - b)))
  | .mul => some (.int k (k.wrap (a * b)))
  | _ => none
theorem R_int {op : BinOp} {tx tv : TypeId} {x y : Operand} {k : IntKind} {a b : Int} {v : Value} (hx : evE E x = .int k a) (hy : evE E y = .int k b) (hv : intOp k op a b = some v) :
    Runs P E ⟨d, .binOp op tx x y tv, ty, pos, af, g⟩ W v W := by
  show (do let r ← (do eqGuard op tx x y (evE E x) (evE E y); binOp op tx (evE E x) (evE E y)); pure (.value r) : Sem Next).run P W = _
  rw [hx, hy]
  cases op <;> simp [intOp] at hv <;> subst hv <;> simp [eqGuard, binOp, Op.intCmp, Op.intArith]
def strOp (op : BinOp) (a b : ByteArray) : Option Value :=
  match op with
  | .eql => some (.bool (a.toList == b.toList))
  | .neq => some (.bool !(a.toList == b.toList))
  | .lss => some (.bool (Op.bytesLess a.toList b.toList))
  | .leq => some (.bool (Op.bytesLess a.toList b.toList || a.toList == b.toList))
  | .gtr => some (.bool !(Op.bytesLess a.toList b.toList || a.toList == b.toList))
  | .geq => some (.bool !(Op.bytesLess a.toList b.toList))
  | _ => none
def catS (a b : ByteArray) : Option ByteArray := if ((a.size + b.size : Nat) : Int) > IntKind.i64.max then none else some (a ++ b)
theorem R_str {op : BinOp} {tx tv : TypeId} {x y : Operand} {a b : ByteArray} {v : Value} (hx : evE E x = .string a) (hy : evE E y = .string b) (hv : strOp op a b = some v) :
    Runs P E ⟨d, .binOp op tx x y tv, ty, pos, af, g⟩ W v W := by
  show (do let r ← (do eqGuard op tx x y (evE E x) (evE E y); binOp op tx (evE E x) (evE E y)); pure (.value r) : Sem Next).run P W = _
  rw [hx, hy]
  cases op <;> simp [strOp] at hv <;> subst hv <;> simp [eqGuard, binOp, Op.stringOp]
theorem R_eql {tx tv : TypeId} {x y : Operand} {a b : Array Value} {r : Bool} (hx : evE E x = .agg a) (hy : evE E y = .agg b) (hg : ∀ W, (eqGuard .eql tx x y (.agg a) (.agg b)).run P W = .ok () W)
    (hv : ∀ W, (binOp .eql tx (.agg a) (.agg b)).run P W = .ok (.bool r) W) : Runs P E ⟨d, .binOp .eql tx x y tv, ty, pos, af, g⟩ W (.bool r) W := by
  show (do let r ← (do eqGuard .eql tx x y (evE E x) (evE E y); binOp .eql tx (evE E x) (evE E y)); pure (.value r) : Sem Next).run P W = _
  rw [hx, hy]; simp [hg W, hv W]
theorem R_neq {tx tv : TypeId} {x y : Operand} {a b : Array Value} {r : Bool} (hx : evE E x = .agg a) (hy : evE E y = .agg b) (hg : ∀ W, (eqGuard .neq tx x y (.agg a) (.agg b)).run P W = .ok () W)
    (hv : ∀ W, (binOp .neq tx (.agg a) (.agg b)).run P W = .ok (.bool r) W) : Runs P E ⟨d, .binOp .neq tx x y tv, ty, pos, af, g⟩ W (.bool r) W := by
  show (do let r ← (do eqGuard .neq tx x y (evE E x) (evE E y); binOp .neq tx (evE E x) (evE E y)); pure (.value r) : Sem Next).run P W = _
  rw [hx, hy]; simp [hg W, hv W]
theorem equalIn_ptr_nil {t e : TypeId} (dd : Nat) (ht : P.underlying t = some (.pointer e)) (a : Option Addr) (W : World) : (Op.equalIn (dd + 1) t (.pointer a) (.pointer none)).run P W = .ok a.isNone W := by
  cases a <;> simp [Op.equalIn, run_underlying ht]
theorem R_ptrEqNil {tx tv e : TypeId} {x y : Operand} {a : Option Addr} (ht : P.underlying tx = some (.pointer e)) (hx : evE E x = .pointer a) (hy : evE E y = .pointer none) :
    Runs P E ⟨d, .binOp .eql tx x y tv, ty, pos, af, g⟩ W (.bool a.isNone) W := by
  show (do let r ← (do eqGuard .eql tx x y (evE E x) (evE E y); binOp .eql tx (evE E x) (evE E y)); pure (.value r) : Sem Next).run P W = _
  rw [hx, hy]
  have h0 := equalIn_ptr_nil 9999 ht a W
  simp [eqGuard, binOp, Op.equal, show Op.maxDepth = 9999 + 1 from rfl, h0]
theorem R_ptrNeNil {tx tv e : TypeId} {x y : Operand} {a : Option Addr} (ht : P.underlying tx = some (.pointer e)) (hx : evE E x = .pointer a) (hy : evE E y = .pointer none) :
    Runs P E ⟨d, .binOp .neq tx x y tv, ty, pos, af, g⟩ W (.bool !a.isNone) W := by
  show (do let r ← (do eqGuard .neq tx x y (evE E x) (evE E y); binOp .neq tx (evE E x) (evE E y)); pure (.value r) : Sem Next).run P W = _
  rw [hx, hy]
  have h0 := equalIn_ptr_nil 9999 ht a W
  simp [eqGuard, binOp, Op.equal, show Op.maxDepth = 9999 + 1 from rfl, h0]
theorem R_lenStr {x : Operand} {t : TypeId} {s : ByteArray} (ht : P.underlying t = some .string) (hx : evE E x = .string s) : Runs P E ⟨d, .call ⟨.builtin .len, #[x], #[t]⟩, ty, pos, af, g⟩ W (.int .i64 s.size) W := by
  show (do let d ← resolve (evE E) ⟨.builtin .len, #[x], #[t]⟩ ty; invoke d.target d.args : Sem Next).run P W = _
  simp [resolve, invoke, builtin, Builtin.len_, run_underlying ht, hx, goInt]
theorem R_lenSl {x : Operand} {t e : TypeId} {A : Option Addr} {l c : Nat} (ht : P.underlying t = some (.slice e)) (hx : evE E x = .slice A l c) : Runs P E ⟨d, .call ⟨.builtin .len, #[x], #[t]⟩, ty, pos, af, g⟩ W (.int .i64 l) W := by
  show (do let d ← resolve (evE E) ⟨.builtin .len, #[x], #[t]⟩ ty; invoke d.target d.args : Sem Next).run P W = _
  simp [resolve, invoke, builtin, Builtin.len_, run_underlying ht, hx, goInt]
theorem R_len {α : Type} {R : Rep α} {k : Nat} {m : Mem} {x : Operand} {t e : TypeId} {v : Value} {l : List α} (ht : P.underlying t = some (.slice e)) (hx : evE E x = v) (hs : Sl R k m v l) : Runs P E ⟨d, .call ⟨.builtin .len, #[x], #[t]⟩, ty, pos, af, g⟩ W (.int .i64 l.length) W := by
  obtain ⟨A, c, rfl, _⟩ := hs
  exact R_lenSl ht hx
theorem R_indexStr {t : TypeId} {x ix : Operand} {ik : IntKind} {s : ByteArray} {i : Int} {c : UInt8} (ht : P.underlying t = some .string) (hx : evE E x = .string s) (hi : evE E ix = .int ik i) (h0 : 0 ≤ i) (hl : s[i.toNat]? = some c) :
    Runs P E ⟨d, .index t x ix, ty, pos, af, g⟩ W (.int .u8 c.toNat) W := by
  show (do pure (.value (← Instr.index t (evE E x) (evE E ix))) : Sem Next).run P W = _
  rw [hx, hi]
  simp [Instr.index, asIntOf, run_underlying ht, h0, hl]
def FieldAt (P : Program) (t : TypeId) (f off : Nat) : Prop := ∀ b o w, (Instr.fieldAt t (.pointer (some ⟨b, o, none⟩)) f).run P w = .ok (.pointer (some ⟨b, o + off, none⟩)) w
theorem R_field {t : TypeId} {x : Operand} {f off b o : Nat} (hf : FieldAt P t f off) (hx : evE E x = .pointer (some ⟨b, o, none⟩)) : Runs P E ⟨d, .fieldAddr t x f, ty, pos, af, g⟩ W (.pointer (some ⟨b, o + off, none⟩)) W := by
  show (do pure (.value (← Instr.fieldAt t (evE E x) f)) : Sem Next).run P W = _
  rw [hx]; simp [hf b o W]
theorem R_fieldAt {t : TypeId} {x : Operand} {f off : Nat} {v : Value} {ys : List Value} (zs : List Value) (hf : FieldAt P t f off) (hx : evE E x = v) (hv : At μ v ys) (hz : (ys.drop off).take zs.length = zs) :
    ∃ v', At μ v' zs ∧ ∀ W, Runs P E ⟨d, .fieldAddr t x f, ty, pos, af, g⟩ W v' W := by
  obtain ⟨b, o, cs, T, fr, rfl, h1, h2⟩ := hv
  refine ⟨_, ⟨b, o + off, cs, T, fr, rfl, h1, fun j y hy => ?_⟩, fun W => R_field hf hx⟩
  have hj : j < zs.length := (List.getElem?_eq_some_iff.1 hy).1
  have := h2 (off + j) y (by
    rw [← hz, List.getElem?_take_of_lt hj, List.getElem?_drop] at hy
    exact hy)
  rw [Nat.add_assoc]
  exact this
theorem R_nilCheck {x : Operand} {a : Addr} (hx : evE E x = .pointer (some a)) : Runs P E ⟨d, .nilCheck x, ty, pos, af, g⟩ W (.pointer (some a)) W := by
  unfold Runs execOp
  simp [hx]
theorem R_index {α : Type} {R : Rep α} {k : Nat} {t e : TypeId} {x ix : Operand} {ik : IntKind} {v : Value} {i : Int} {l : List α} {x0 : α}
    (ht : P.underlying t = some (.slice e)) (he : ∀ w, (sizeOf e).run P w = .ok k w) (hx : evE E x = v) (hi : evE E ix = .int ik i) (hs : Sl R k μ v l) (h0 : 0 ≤ i) (hl : l[i.toNat]? = some x0) :
    ∃ p ys, ys.length = k ∧ R μ ys x0 ∧ At μ p ys ∧ ∀ W, Runs P E ⟨d, .indexAddr t x ix, ty, pos, af, g⟩ W p W := by
  obtain ⟨A, c, rfl, h2, h3, h4⟩ := hs
  have hlt : i.toNat < l.length := (List.getElem?_eq_some_iff.1 hl).1
  obtain ⟨b, off, cs, T, fr, rfl, h6, h7⟩ := h4 (by omega)
  obtain ⟨ys, h8, h9, h10⟩ := h7 i.toNat x0 hl
  refine ⟨.pointer (some ⟨b, off + i.toNat * k, none⟩), ys, h8, h9, ⟨b, off + i.toNat * k, cs, T, fr, rfl, h6, fun j y hy => h10 j y hy⟩, fun W => ?_⟩
  show (do pure (.value (← Instr.indexAt t (evE E x) (evE E ix))) : Sem Next).run P W = _
  rw [hx, hi]
  have hb : 0 ≤ i ∧ i < (l.length : Int) := ⟨h0, by omega⟩
  simp [Instr.indexAt, asIntOf, run_underlying ht, he W, hb, Addr.add_lit]
theorem R_indexP {α : Type} {enc : α → List Value} {k : Nat} {t e : TypeId} {x ix : Operand} {ik : IntKind} {v : Value} {i : Int} {l : List α} {x0 : α}
    (ht : P.underlying t = some (.slice e)) (he : ∀ w, (sizeOf e).run P w = .ok k w) (hx : evE E x = v) (hi : evE E ix = .int ik i) (hs : Sl (Pl enc) k μ v l) (h0 : 0 ≤ i) (hl : l[i.toNat]? = some x0) :
    ∃ p, At μ p (enc x0) ∧ ∀ W, Runs P E ⟨d, .indexAddr t x ix, ty, pos, af, g⟩ W p W := by
  obtain ⟨p, ys, h1, h2, h3, h4⟩ := R_index (d := d) (ty := ty) (pos := pos) (af := af) (g := g) ht he hx hi hs h0 hl
  cases h2
  exact ⟨p, h3, h4⟩
theorem run_loadBlock (P : Program) {W : World} {b off : Nat} {cs : Array Value} {T : TypeId} {fr : Nat × Nat} (hb : W.heap[b]? = some (.cells cs T fr)) (ys : List Value) (hy : ∀ j y, ys[j]? = some y → cs[off + j]? = some y) :
    (loadCells ⟨b, off, none⟩ ys.length).run P W = .ok ys.toArray W :=
  run_loadCells_list W ⟨b, off, none⟩ ys (fun j v hv => by rw [Addr.add_lit, cell_of_row W b (off + j) cs T fr hb]; exact hy j v hv)
theorem run_loadAgg {W : World} {t : TypeId} {b off : Nat} {cs : Array Value} {T : TypeId} {fr : Nat × Nat} (hA : ∀ w, (isAgg t).run P w = .ok true w) (ys : List Value) (hS : ∀ w, (sizeOf t).run P w = .ok ys.length w)
    (hb : W.heap[b]? = some (.cells cs T fr)) (hy : ∀ j y, ys[j]? = some y → cs[off + j]? = some y) : (Instr.loadAt t (.pointer (some ⟨b, off, none⟩))).run P W = .ok (.agg ys.toArray) W := by
  simp [Instr.loadAt, Instr.sureAddr, loadVar, hA W, hS W, run_loadBlock P hb ys hy]
theorem run_loadOne {W : World} {t : TypeId} {b off : Nat} {cs : Array Value} {T : TypeId} {fr : Nat × Nat} (hA : ∀ w, (isAgg t).run P w = .ok false w) {y : Value}
    (hb : W.heap[b]? = some (.cells cs T fr)) (hy : cs[off]? = some y) : (Instr.loadAt t (.pointer (some ⟨b, off, none⟩))).run P W = .ok y W := by
  have hc : W.cell? ⟨b, off, none⟩ = some y := by rw [cell_of_row W b off cs T fr hb]; exact hy
  simp [Instr.loadAt, Instr.sureAddr, loadVar, hA W, load, Sem.run, hc]
theorem R_load {t : TypeId} {x : Operand} {a v : Value} (hx : evE E x = a) (hr : (Instr.loadAt t a).run P W = .ok v W) : Runs P E ⟨d, .load t x, ty, pos, af, g⟩ W v W := by
  show (do pure (.value (← Instr.loadAt t (evE E x))) : Sem Next).run P W = _
  rw [hx]; simp [hr]
def Has (μ : Mem) (A : List (Nat × Obj)) (W : World) : Prop := (∀ b o, μ b = some o → W.heap[b]? = some o) ∧ ∀ b o, (b, o) ∈ A → W.heap[b]? = some o
theorem ST.has (h : ST dd F w W μ L) : Has μ L W := ⟨h.mem, fun b o hb => (h.box b o hb).1⟩
theorem Has.sub {μ' : Mem} {A A' : List (Nat × Obj)} (h : Has μ A W) (hs : Sub μ' μ) (hA : ∀ p, p ∈ A' → p ∈ A) : Has μ' A' W := ⟨fun b o hb => h.1 b o (hs b o hb), fun b o hb => h.2 b o (hA _ hb)⟩
theorem load_atA {A : List (Nat × Obj)} (hH : Has μ A W) {t : TypeId} {p : Value} {ys : List Value} (hp : At μ p ys) (hA : ∀ w, (isAgg t).run P w = .ok true w) (hS : ∀ w, (sizeOf t).run P w = .ok ys.length w) :
    (Instr.loadAt t p).run P W = .ok (.agg ys.toArray) W := by
  obtain ⟨b, off, cs, T, fr, rfl, h1, h2⟩ := hp
  exact run_loadAgg hA ys hS (hH.1 _ _ h1) h2
theorem load_at1 {A : List (Nat × Obj)} (hH : Has μ A W) {t : TypeId} {p : Value} {y : Value} (hp : At μ p [y]) (hA : ∀ w, (isAgg t).run P w = .ok false w) :
    (Instr.loadAt t p).run P W = .ok y W := by
  obtain ⟨b, off, cs, T, fr, rfl, h1, h2⟩ := hp
  exact run_loadOne hA (hH.1 _ _ h1) (h2 0 y rfl)
theorem load_boxA {A : List (Nat × Obj)} (hH : Has μ A W) {t : TypeId} {b off : Nat} {cs : Array Value} {T : TypeId} {fr : Nat × Nat} (hL : (b, Obj.cells cs T fr) ∈ A) (ys : List Value) (hy : (cs.toList.drop off).take ys.length = ys)
    (hA : ∀ w, (isAgg t).run P w = .ok true w) (hS : ∀ w, (sizeOf t).run P w = .ok ys.length w) : (Instr.loadAt t (.pointer (some ⟨b, off, none⟩))).run P W = .ok (.agg ys.toArray) W :=
  run_loadAgg hA ys hS (hH.2 _ _ hL) (fun j y hj => by
    have hlt : j < ys.length := (List.getElem?_eq_some_iff.1 hj).1
    rw [← hy, List.getElem?_take_of_lt hlt, List.getElem?_drop] at hj
    simpa using hj)
theorem load_box1 {A : List (Nat × Obj)} (hH : Has μ A W) {t : TypeId} {b off : Nat} {cs : Array Value} {T : TypeId} {fr : Nat × Nat} (hL : (b, Obj.cells cs T fr) ∈ A) {y : Value} (hy : cs[off]? = some y)
    (hA : ∀ w, (isAgg t).run P w = .ok false w) : (Instr.loadAt t (.pointer (some ⟨b, off, none⟩))).run P W = .ok y W :=
  run_loadOne hA (hH.2 _ _ hL) hy
theorem R_build {t : TypeId} {ps : Array (Nat × Operand)} {qs : Array (Nat × Value)} {v : Value} (hq : ps.map (fun (i, x) => (i, evE E x)) = qs)
    (hr : ∀ W, (Instr.build t qs).run P W = .ok v W) : Runs P E ⟨d, .build t ps, ty, pos, af, g⟩ W v W := by
  show (do pure (.value (← Instr.build t (ps.map fun (i, x) => (i, evE E x)))) : Sem Next).run P W = _
  rw [hq]; simp [hr W]
theorem run_build {t : TypeId} {z cs : Array Value} {fs : Array Field} {qs : Array (Nat × Value)} {pl : Array (Nat × Nat)} (hz : ∀ w, (zeroValue t).run P w = .ok (.agg z) w) (ht : P.underlying t = some (.struct fs))
    (hp : ∀ w, (fs.mapM fun f => do pure (f.offset, ← sizeOf f.type) : Sem (Array (Nat × Nat))).run P w = .ok pl w)
    (hf : Instr.fill (pl[·]?) z qs.toList = some cs) (W : World) : (Instr.build t qs).run P W = .ok (.agg cs) W := by
  simp only [Instr.build, Sem.run_bind, hz W, Result.andThen_ok, run_underlying ht, Value.cells]
  rw [hp W]
  simp only [Result.andThen_ok, hf, Sem.run_pure]
end
theorem ask_drawn {α : Type} : ∀ (a : Ask α) (w : World), w.drawn ≤ (w.ask a).2.drawn
  | .done a, w => by simp [World.ask]
  | .ask what range k, w => by
    unfold World.ask
    dsimp only
    split
    · exact ask_drawn (k 0) w
    · refine Nat.le_trans (Nat.le_succ w.drawn) ?_
      exact ask_drawn _ { w with drawn := w.drawn + 1 }
theorem sys_drawn (w : World) (c : Sys) : w.drawn ≤ (w.sys c).2.drawn := by
  have h := ask_drawn (Kernel.perform c w.os) w
  unfold World.sys
  generalize w.ask (Kernel.perform c w.os) = r at *
  obtain ⟨⟨r1, r2⟩, w2⟩ := r
  cases r1 <;> simp at h ⊢ <;> exact h
theorem viewStore_drawn {p : Program} {w w' : World} {a : Addr} {u : TypeId} {k : Addr} {v : Value} {b : Bool} {l : List Addr} (h : w.viewStore p a u k v b = .ok (w', l)) : w'.drawn = w.drawn := by
  unfold World.viewStore at h
  simp only [bind, Except.bind, pure, Except.pure] at h
  split at h
  · cases h
  · split at h
    · cases h
    · split at h
      · split at h
        · cases h
        · split at h
          · cases h
          · cases h; rfl
      · cases h
theorem farStore_drawn {p : Program} {w w' : World} {a : Addr} {v : Value} {b : Bool} {l : List Addr} (h : w.farStore p a v b = .ok (w', l)) : w'.drawn = w.drawn := by
  unfold World.farStore at h
  split at h
  · split at h
    · rename_i h1; cases h; exact viewStore_drawn h1
    · cases h
  · cases h
theorem run_drawn {α : Type} {p : Program} : ∀ (s : Sem α) (w w' : World) (a : α), s.run p w = .ok a w' → w.drawn ≤ w'.drawn
  | .pure a, w, w', b, h => by simp only [Sem.run] at h; cases h; exact Nat.le_refl _
  | .load m a k, w, w', b, h => by
    simp only [Sem.run] at h
    split at h
    · exact run_drawn _ _ _ _ h
    · split at h
      · exact run_drawn _ _ _ _ h
      · cases h
  | .store m a v k, w, w', b, h => by
    have key : ∀ (r : Result α) hh, r = .ok b w' → (r = (match w.cell? a with
        | some _ => if w.frozen? a then .halt hh w else k.run p (w.setCell a v)
        | none => match w.farStore p a v (m == .atomic) with
          | .ok (w, _) => k.run p w
          | .error h => .halt h w)) → w.drawn ≤ w'.drawn := by
      intro r hh hr h
      rw [hr] at h
      split at h
      · split at h
        · cases h
        · have := run_drawn k _ _ _ h.symm
          simpa [World.setCell] using this
      · split at h
        · rename_i h1
          have h2 := run_drawn k _ _ _ h.symm
          rw [farStore_drawn h1] at h2
          exact h2
        · cases h
    cases v with
    | agg cs => simp only [Sem.run] at h; cases h
    | tuple cs => simp only [Sem.run] at h; cases h
    | _ => exact key _ _ h (by simp only [Sem.run]; rfl)
  | .new o k, w, w', b, h => by simp only [Sem.run] at h; have := run_drawn (k _) _ _ _ h; exact this
  | .shape r k, w, w', b, h => by simp only [Sem.run] at h; exact run_drawn _ _ _ _ h
  | .freeze a n k, w, w', b, h => by
    simp only [Sem.run] at h
    have := run_drawn k _ _ _ h
    unfold World.freeze at this
    split at this <;> exact this
  | .frozen a k, w, w', b, h => by simp only [Sem.run] at h; exact run_drawn _ _ _ _ h
  | .getObj r k, w, w', b, h => by
    simp only [Sem.run] at h
    split at h <;> try (cases h; done)
    exact run_drawn _ _ _ _ h
  | .setObj r o k, w, w', b, h => by
    simp only [Sem.run] at h
    split at h <;> try (cases h; done)
    have := run_drawn k _ _ _ h
    exact this
  | .choose q k, w, w', b, h => by
    simp only [Sem.run] at h
    split at h
    · exact run_drawn _ _ _ _ h
    · exact Nat.le_trans (Nat.le_succ _) (run_drawn _ _ _ _ h)
  | .sys c k, w, w', b, h => by
    simp only [Sem.run] at h
    exact Nat.le_trans (sys_drawn w c) (run_drawn _ _ _ _ h)
  | .program k, w, w', b, h => by simp only [Sem.run] at h; exact run_drawn _ _ _ _ h
  | .mark m k, w, w', b, h => by simp only [Sem.run] at h; exact run_drawn k _ _ _ h
  | .halt x, w, w', b, h => by simp only [Sem.run] at h; cases h
end Go.Proofs.YtmlncblocfcmiaaGreat
namespace Go.Proofs.YtmlncblocfcmiaaGreat
open Go.RowKit
variable {dd : Bool}
section
variable {P : Program} {n : Nat} {Q : Post} {E : Nat → Value} {W : World} {ops : Array Oper} {rest : List Oper}
  {d : Option Nat} {ty : TypeId} {pos : String} {af : Array Edge} {g : Option (Nat × Bool)}
  {F : Nat → Prop} {w : World} {μ : Mem} {L : List (Nat × Obj)}
def Eff (P : Program) (E : Nat → Value) (o : Oper) (W : World) (K : Value → World → Prop) : Prop :=
  (∃ v W', (execOp (evE E) o).run P W = .ok (.value v) W' ∧ K v W') ∨ (∃ W', (execOp (evE E) o).run P W = .ok .skip W' ∧ K undef W') ∨
  (∃ f args, (execOp (evE E) o).run P W = .ok (.enter f args) W ∧ Calls P f args W fun e w' => ∃ v, e = .returned v ∧ K v w')
theorem Eff.mono {o : Oper} {K K' : Value → World → Prop} (h : Eff P E o W K) (hk : ∀ v W', K v W' → K' v W') : Eff P E o W K' := by
  rcases h with ⟨v, W', h1, h2⟩ | ⟨W', h1, h2⟩ | ⟨f, args, h1, h2⟩
  · exact .inl ⟨v, W', h1, hk _ _ h2⟩
  · exact .inr (.inl ⟨W', h1, hk _ _ h2⟩)
  · exact .inr (.inr ⟨f, args, h1, Calls.mono h2 (fun _ _ ⟨v, h3, h4⟩ => ⟨v, h3, hk _ _ h4⟩)⟩)
theorem LW_e {o : Oper} {dd : Nat} (hw : Wanted n ops E o) (hd : o.dst = some dd) (hn : dd < n) (h : Eff P E o W fun v W' => LW P n ops Q rest (upd E dd v) W') : LW P n ops Q (o :: rest) E W := by
  rcases h with ⟨v, W', h1, h2⟩ | ⟨W', h1, h2⟩ | ⟨f, args, h1, h2⟩
  · exact LW_val hw hd hn h1 h2
  · intro a ha
    unfold wpList
    rw [if_pos (hw.of ha)]
    refine .inl ?_
    unfold Oper.wp
    rw [ha.eval, h1, Oper.upon_skip, hd]
    exact h2 _ (ha.put hn _)
  · exact LW_enter hw hd hn h1 h2
theorem LW_e0 {o : Oper} (hw : Wanted n ops E o) (hd : o.dst = none) (h : Eff P E o W fun _ W' => LW P n ops Q rest E W') : LW P n ops Q (o :: rest) E W := by
  rcases h with ⟨v, W', h1, h2⟩ | ⟨W', h1, h2⟩ | ⟨f, args, h1, h2⟩
  · intro a ha
    unfold wpList
    rw [if_pos (hw.of ha)]
    refine .inl ?_
    unfold Oper.wp
    rw [ha.eval, h1, Oper.upon_value, hd]
    exact h2 _ (ha.put_none _)
  · exact LW_skipv hw hd h1 h2
  · intro a ha
    unfold wpList
    rw [if_pos (hw.of ha)]
    refine .inl ?_
    unfold Oper.wp
    rw [ha.eval, h1, Oper.upon_enter]
    refine Calls.mono h2 ?_
    rintro e w' ⟨v, rfl, hl⟩
    simp only [hd]
    exact hl _ (ha.put_none _)
theorem E_box {K : Value → World → Prop} {t : TypeId} {x : Operand} {v : Value} (hST : ST dd F w W μ L) (hx : evE E x = v)
    (h : ∀ W' b, ST dd F w W' μ ((b, .cells v.cells t (0, 0)) :: L) → K (.pointer (some ⟨b, 0, none⟩)) W') : Eff P E ⟨d, .box t x, ty, pos, af, g⟩ W K :=
  .inl ⟨.pointer (some ⟨W.heap.size, 0, none⟩), W.alloc (.cells v.cells t (0, 0)), by
      show (do pure (.value (← Instr.box t (evE E x))) : Sem Next).run P W = _
      rw [hx]
      simp [Instr.box, newVar, newRow, newObj, Sem.run], h _ _ (hST.alloc _)⟩
theorem E_alloc {K : Value → World → Prop} {t : TypeId} {z : Value} (hST : ST dd F w W μ L) (hz : ∀ w, (zeroValue t).run P w = .ok z w)
    (h : ∀ W' b, ST dd F w W' μ ((b, .cells z.cells t (0, 0)) :: L) → K (.pointer (some ⟨b, 0, none⟩)) W') : Eff P E ⟨d, .alloc t, ty, pos, af, g⟩ W K :=
  .inl ⟨.pointer (some ⟨W.heap.size, 0, none⟩), W.alloc (.cells z.cells t (0, 0)), by
      show (do pure (.value (← Instr.alloc t true (.tuple #[]))) : Sem Next).run P W = _
      simp [Instr.alloc, hz W, newVar, newRow, newObj, Sem.run], h _ _ (hST.alloc _)⟩
theorem run_buildSlice {t e : TypeId} {m k : Nat} {z : Value} {qs : Array (Nat × Value)} {cs : Array Value} (ht : P.underlying t = some (.slice e)) (hs : ∀ w, (sizeOf e).run P w = .ok k w) (hz : ∀ w, (zeroValue e).run P w = .ok z w)
    (hm : m * k ≤ 16777216) (hf : Instr.fill (fun i => some (i * k, k)) ((Array.range (m * k)).map (fun i => (if m * k = 0 then (#[] : Array Value) else z.cells)[i % (if m * k = 0 then (#[] : Array Value) else z.cells).size]!)) qs.toList = some cs) (W : World) :
    (Instr.buildSlice t m qs).run P W = .ok (.slice (some ⟨W.heap.size, 0, none⟩) m m) (W.alloc (.cells cs e (0, 0))) := by
  simp only [Instr.buildSlice, Sem.run_bind, run_underlying ht, Result.andThen_ok, hs W]
  rw [if_neg (by omega)]
  by_cases h0 : m * k = 0
  · simp only [h0, if_true] at hf ⊢
    simp only [Sem.run_bind, Sem.run_pure, Result.andThen_ok, hf]
    simp [newRow, newObj, Sem.run]
  · simp only [h0, if_false] at hf ⊢
    simp only [Sem.run_bind, hz W, Sem.run_pure, Result.andThen_ok, hf]
    simp [newRow, newObj, Sem.run]
theorem E_buildSlice {K : Value → World → Prop} {t e : TypeId} {m : Nat} {ps : Array (Nat × Operand)} {qs : Array (Nat × Value)} {cs : Array Value} (hST : ST dd F w W μ L) (hq : ps.map (fun (i, x) => (i, evE E x)) = qs)
    (hr : ∀ W, (Instr.buildSlice t m qs).run P W = .ok (.slice (some ⟨W.heap.size, 0, none⟩) m m) (W.alloc (.cells cs e (0, 0))))
    (h : ∀ W' b, ST dd F w W' μ ((b, .cells cs e (0, 0)) :: L) → K (.slice (some ⟨b, 0, none⟩) m m) W') : Eff P E ⟨d, .buildSlice t m ps, ty, pos, af, g⟩ W K :=
  .inl ⟨.slice (some ⟨W.heap.size, 0, none⟩) m m, W.alloc (.cells cs e (0, 0)), by
      show (do pure (.value (← Instr.buildSlice t m (ps.map fun (i, x) => (i, evE E x)))) : Sem Next).run P W = _
      rw [hq]
      simp [hr W], h _ _ (hST.alloc _)⟩
theorem ST.store {A B : List (Nat × Obj)} {b : Nat} {cs : Array Value} {t : TypeId} (hST : ST dd F w W μ (A ++ (b, .cells cs t (0, 0)) :: B)) (cs' : Array Value) :
    ST dd F w (W.setRow b cs') μ (A ++ (b, .cells cs' t (0, 0)) :: B) := by
  have hb := (hST.box b _ (by simp : (b, Obj.cells cs t (0, 0)) ∈ A ++ (b, .cells cs t (0, 0)) :: B)).1
  refine hST.put ⟨rfl, rfl, rfl, Nat.le_refl _, by simp [World.setRow]⟩ (fun k hk => ?_) (setRow_heap W b cs cs' t (0, 0) hb)
  simp only [World.setRow, Array.getElem?_modify]
  rw [if_neg (fun e => hk e.symm)]
theorem run_storeBlock (P : Program) {W : World} {t : TypeId} {b off : Nat} {cs : Array Value} {T : TypeId} (v : Value) (hS : ∀ w, (sizeOf t).run P w = .ok v.cells.size w) (h1 : ∀ u ∈ v.cells.toList, u.oneCell' = true)
    (hb : W.heap[b]? = some (.cells cs T (0, 0))) (hl : off + v.cells.size ≤ cs.size) : (Instr.storeAt t (.pointer (some ⟨b, off, none⟩)) v).run P W = .ok () (W.setRow b (cs.toList.take off ++ v.cells.toList ++ cs.toList.drop (off + v.cells.size)).toArray) := by
  have := run_storeCells_at (P := P) b off T v.cells.toList 0 cs W hb (by simpa using hl) h1
  simp [Instr.storeAt, Instr.sureAddr, storeVar, hS W]
  simpa using this
theorem E_store {K : Value → World → Prop} (A : List (Nat × Obj)) {B : List (Nat × Obj)} {t : TypeId} {x y : Operand} (v : Value) {b off : Nat} {cs : Array Value} {T : TypeId} (cs' : Array Value) (hST : ST dd F w W μ (A ++ (b, .cells cs T (0, 0)) :: B))
    (hx : evE E x = .pointer (some ⟨b, off, none⟩)) (hy : evE E y = v) (hS : ∀ w, (sizeOf t).run P w = .ok v.cells.size w)
    (h1 : ∀ u ∈ v.cells.toList, u.oneCell' = true) (hl : off + v.cells.size ≤ cs.size) (hc : (cs.toList.take off ++ v.cells.toList ++ cs.toList.drop (off + v.cells.size)).toArray = cs')
    (h : ∀ W', ST dd F w W' μ (A ++ (b, .cells cs' T (0, 0)) :: B) → K undef W') : Eff P E ⟨d, .store t x y, ty, pos, af, g⟩ W K :=
  .inr (.inl ⟨W.setRow b cs', by
      show (do Instr.storeAt t (evE E x) (evE E y); pure .skip : Sem Next).run P W = _
      have hb := (hST.box b _ (by simp : (b, Obj.cells cs T (0, 0)) ∈ A ++ (b, .cells cs T (0, 0)) :: B)).1
      rw [hx, hy]
      simp only [Sem.run_bind, run_storeBlock P v hS h1 hb hl, hc, Result.andThen_ok, Sem.run_pure], h _ (hST.store cs')⟩)
def Gives (dd : Bool) (P : Program) (f : FuncId) (args : List Value) (w : World) (v : Value) : Prop := Calls P f args.toArray w fun e w' => e = .returned v ∧ Ex dd w w'
theorem run_callF {f : FuncId} {fv : Operand} {ax : Array Operand} {ats : Array TypeId} {caps : Array Value} {args : Array Value}
    (hf : evE E fv = .func (.func f) #[] caps) (he : ∀ args w, (callFunc f args).run P w = .ok (.enter f args) w) (ha : ax.map (evE E) ++ caps = args) :
    (execOp (evE E) ⟨d, .call ⟨.value fv, ax, ats⟩, ty, pos, af, g⟩).run P W = .ok (.enter f args) W := by
  show (do let d ← resolve (evE E) ⟨.value fv, ax, ats⟩ ty; invoke d.target d.args : Sem Next).run P W = _
  rw [← ha]
  simp only [resolve, hf, Deferred.ofValue, Sem.run_bind, Sem.run_pure, Result.andThen_ok, invoke]
  simp [he]
theorem E_calls {K : Value → World → Prop} {f : FuncId} {fv : Operand} {ax : Array Operand} {ats : Array TypeId} {caps : Array Value} {args : Array Value}
    (hf : evE E fv = .func (.func f) #[] caps) (he : ∀ args w, (callFunc f args).run P w = .ok (.enter f args) w) (ha : ax.map (evE E) ++ caps = args)
    (h : Calls P f args W fun e w' => ∃ v, e = .returned v ∧ K v w') : Eff P E ⟨d, .call ⟨.value fv, ax, ats⟩, ty, pos, af, g⟩ W K :=
  .inr (.inr ⟨f, args, run_callF hf he ha, h⟩)
theorem E_gives {K : Value → World → Prop} {f : FuncId} {fv : Operand} {ax : Array Operand} {ats : Array TypeId} {args : List Value} {v : Value} (hST : ST dd F w W μ L)
    (hf : evE E fv = .func (.func f) #[] #[]) (he : ∀ args w, (callFunc f args).run P w = .ok (.enter f args) w) (ha : (ax.map (evE E) ++ (#[] : Array Value)) = args.toArray) (hc : Gives dd P f args W v)
    (h : ∀ W', ST dd F w W' μ L → K v W') : Eff P E ⟨d, .call ⟨.value fv, ax, ats⟩, ty, pos, af, g⟩ W K :=
  E_calls hf he ha (Calls.mono hc (fun _ _ ⟨h1, h2⟩ => ⟨v, h1, h _ (hST.call0 h2)⟩))
def Row {α : Type} (e : TypeId) (enc : α → List Value) (k : Nat) (v : Value) (l : List α) (R : List (Nat × Obj)) : Prop :=
  (v = .slice none 0 0 ∧ l = [] ∧ R = []) ∨
  ∃ g cap cur, v = .slice (some ⟨g, 0, none⟩) l.length cap ∧ R = [(g, .cells cur e (0, 0))] ∧ l.length ≤ cap ∧ cap ≤ maxLen ∧ cur.size = cap * k ∧ cur.toList.take (l.length * k) = (l.map enc).flatten
theorem flat_length {α : Type} {enc : α → List Value} {k : Nat} (hk : ∀ x, (enc x).length = k) : ∀ l : List α, (l.map enc).flatten.length = l.length * k
  | [] => by simp
  | x :: l => by simp [flat_length hk l, hk x, Nat.add_mul, Nat.add_comm]
theorem flat_get {α : Type} {enc : α → List Value} {k : Nat} (hk : ∀ x, (enc x).length = k) : ∀ (l : List α) (i : Nat) (x : α), l[i]? = some x → ∀ j y, (enc x)[j]? = some y → (l.map enc).flatten[i * k + j]? = some y
  | [], i, x, h => by cases h
  | z :: l, 0, x, h => by
    simp at h; subst h
    intro j y hy
    have hj : j < (enc z).length := (List.getElem?_eq_some_iff.1 hy).1
    simp [List.getElem?_append, hj]
    rw [List.getElem?_eq_getElem hj] at hy
    simpa using hy
  | z :: l, i + 1, x, h => by
    intro j y hy
    have := flat_get hk l i x (by simpa using h) j y hy
    simp only [List.map_cons, List.flatten_cons]
    rw [List.getElem?_append_right (by rw [hk z]; have := Nat.le_mul_of_pos_left k (Nat.succ_pos i); simp [Nat.add_mul] at *; omega), hk z]
    rw [show (i + 1) * k + j - k = i * k + j by rw [Nat.add_mul]; omega]
    exact this
theorem flat_inv {α : Type} {enc : α → List Value} {k : Nat} (hk : ∀ x, (enc x).length = k) : ∀ (l : List α) (q : Nat) (y : Value), (l.map enc).flatten[q]? = some y → ∃ i x j, l[i]? = some x ∧ (enc x)[j]? = some y ∧ q = i * k + j
  | [], q, y, h => by simp at h
  | z :: l, q, y, h => by
    simp only [List.map_cons, List.flatten_cons] at h
    by_cases hq : q < k
    · rw [List.getElem?_append_left (by rw [hk]; exact hq)] at h
      exact ⟨0, z, q, rfl, h, by simp⟩
    · rw [List.getElem?_append_right (by rw [hk]; omega), hk] at h
      obtain ⟨i, x, j, h1, h2, h3⟩ := flat_inv hk l (q - k) y h
      exact ⟨i + 1, x, j, by simpa using h1, h2, by rw [Nat.add_mul]; omega⟩
theorem Row.nil {α : Type} (e : TypeId) (enc : α → List Value) (k : Nat) : Row e enc k (.slice none 0 0) [] [] := .inl ⟨rfl, rfl, rfl⟩
theorem Row.sl {α : Type} {e : TypeId} {enc : α → List Value} {k : Nat} {v : Value} {l : List α} {R : List (Nat × Obj)} {m : Mem} (h : Row e enc k v l R) (hk : ∀ x, (enc x).length = k) (hm : ∀ b o, (b, o) ∈ R → m b = some o) : Sl (Pl enc) k m v l := by
  rcases h with ⟨rfl, rfl, rfl⟩ | ⟨g, cap, cur, rfl, rfl, h1, h2, h3, h4⟩
  · exact Sl.nil _ _ _
  · refine ⟨_, cap, rfl, h1, h2, fun _ => ⟨g, 0, cur, e, (0, 0), rfl, hm _ _ (by simp), fun i x hx => ⟨enc x, hk x, rfl, fun j y hy => ?_⟩⟩⟩
    have := flat_get hk l i x hx j y hy
    rw [← h4] at this
    have hlt : i * k + j < l.length * k := by
      have := (List.getElem?_eq_some_iff.1 this).1
      simp at this; omega
    rw [List.getElem?_take_of_lt hlt] at this
    simpa using this
theorem Row.len {α : Type} {e : TypeId} {enc : α → List Value} {k : Nat} {v : Value} {l : List α} {R : List (Nat × Obj)} (h : Row e enc k v l R) : l.length ≤ 9223372036854775807 := by
  rcases h with ⟨rfl, rfl, rfl⟩ | ⟨g, cap, cur, rfl, rfl, h1, h2, h3, h4⟩
  · simp
  · unfold maxLen at h2; omega
theorem Row.fr {α : Type} {e : TypeId} {enc : α → List Value} {k : Nat} {v : Value} {l : List α} {R X Y : List (Nat × Obj)} (h : Row e enc k v l R) (hST : ST dd NoF w W μ (X ++ (R ++ Y))) : Fr w.heap.size v := by
  rcases h with ⟨rfl, rfl, rfl⟩ | ⟨g, cap, cur, rfl, rfl, h1, h2, h3, h4⟩
  · exact Fr.nil _
  · intro b hb
    simp [Value.ownBlock] at hb
    subst hb
    rcases (hST.box g _ (by simp; exact .inr (.inl rfl))).2.2 with h | h
    · exact h
    · exact h.elim
theorem Row.lit {α : Type} {e : TypeId} {enc : α → List Value} {k b m : Nat} {l : List α} {cs : Array Value} (hm : l.length = m) (hM : m ≤ maxLen) (hc : cs.toList = (l.map enc).flatten) (hs : cs.size = m * k) : Row e enc k (.slice (some ⟨b, 0, none⟩) m m) l [(b, .cells cs e (0, 0))] := by
  subst hm
  refine .inr ⟨b, _, cs, rfl, rfl, Nat.le_refl _, hM, hs, ?_⟩
  rw [← hc, ← hs]
  exact List.take_of_length_le (by rw [Array.length_toList]; exact Nat.le_refl _)
def appB {α : Type} (by_ : Nat) (l m : List α) : Option (List α) := if (l.length + m.length) * by_ ≤ 140737488355328 ∧ l.length + m.length ≤ maxLen then some (l ++ m) else none
theorem E_append {K : Value → World → Prop} {α : Type} {e t : TypeId} {enc : α → List Value} {k by_ : Nat} {z v vs : Value} {l m r : List α} {R : List (Nat × Obj)} (X : List (Nat × Obj)) {Y : List (Nat × Obj)} {x y : Operand} {i : TypeInfo}
    (hST : ST dd F w W μ (X ++ (R ++ Y))) (hk : ∀ x, (enc x).length = k) (hk0 : 0 < k) (h1 : ∀ x, ∀ u ∈ enc x, u.oneCell' = true) (ht : P.underlying t = some (.slice e)) (hi : P.info? e = some i) (hz : i.zero = some z) (hzs : z.cells.size = k) (hsz : i.size = k) (hby : i.bytes = by_)
    (hx : evE E x = v) (hy : evE E y = vs) (hR : Row e enc k v l R) (hs : Sl (Pl enc) k (hp W) vs m) (hb : appB by_ l m = some r)
    (h : ∀ W' v' R', ST dd F w W' μ (X ++ (R' ++ Y)) → Row e enc k v' r R' → K v' W') : Eff P E ⟨d, .call ⟨.builtin .append, #[x, y], #[t, t]⟩, ty, pos, af, g⟩ W K := by
  unfold appB at hb
  split at hb
  case isFalse => cases hb
  rename_i hbb
  cases hb
  have hrun : ∀ (V : Value) (W' : World), (Builtin.append_ #[t, t] ty #[v, vs]).run P W = .ok V W' → (execOp (evE E) ⟨d, .call ⟨.builtin .append, #[x, y], #[t, t]⟩, ty, pos, af, g⟩).run P W = .ok (.value V) W' := by
    intro V W' hV
    show (do let d ← resolve (evE E) ⟨.builtin .append, #[x, y], #[t, t]⟩ ty; invoke d.target d.args : Sem Next).run P W = _
    simp [resolve, invoke, builtin, hx, hy, hV]
  obtain ⟨A, c, rfl, hc1, hc2, hc3⟩ := hs
  have hown : W.ownsRow 0 e k v l.length (l.map enc).flatten := by
    refine ⟨flat_length hk l, ?_⟩
    rcases hR with ⟨rfl, rfl, rfl⟩ | ⟨g, cap, cur, rfl, rfl, h1, h2, h3, h4⟩
    · exact .inl ⟨rfl, rfl⟩
    · exact .inr ⟨g, cap, cur, rfl, Nat.zero_le _, (hST.box g _ (by simp)).1, h1, h2, h3, h4⟩
  have hsrc : m.length = 0 ∨ ∃ ad, A = some ad ∧ ∀ j u, (m.map enc).flatten[j]? = some u → W.cell? (ad.add j) = some u := by
    rcases Nat.eq_zero_or_pos m.length with h0 | h0
    · exact .inl h0
    · obtain ⟨b, off, cs, T, fr, rfl, h6, h7⟩ := hc3 h0
      refine .inr ⟨⟨b, off, none⟩, rfl, fun j u hu => ?_⟩
      obtain ⟨i, x, q, h8, h9, rfl⟩ := flat_inv hk m j u hu
      obtain ⟨ys, _, h11, h12⟩ := h7 i x h8
      cases h11
      rw [Addr.add_lit, cell_of_row W b (off + (i * k + q)) cs T fr h6, ← Nat.add_assoc]
      exact h12 q u h9
  have hone : ∀ u ∈ (m.map enc).flatten, u.oneCell' = true := by
    intro u hu
    obtain ⟨ys, hys, hu'⟩ := List.mem_flatten.1 hu
    obtain ⟨x, _, rfl⟩ := List.mem_map.1 hys
    exact h1 x u hu'
  by_cases hm0 : m.length = 0
  · have hm : m = [] := List.eq_nil_of_length_eq_zero hm0
    subst hm
    have hr : (Builtin.append_ #[t, t] ty #[v, .slice A 0 c]).run P W = .ok v W := by
      rcases hown.2 with ⟨rfl, h0⟩ | ⟨g, cap, cur, rfl, _, hg, hnc, _, hcs, _⟩
      · cases A with
        | none => simp [Builtin.append_, run_underlying ht, sizeOf, typeInfo, hi, Builtin.lenOf, Builtin.firstCells]
        | some ad => simp [Builtin.append_, run_underlying ht, sizeOf, typeInfo, hi, Builtin.lenOf, Builtin.firstCells, loadCells, loadCellsFrom]
      · cases A with
        | none => simp [Builtin.append_, run_underlying ht, sizeOf, typeInfo, hi, Builtin.lenOf, Builtin.firstCells, hnc, storeCells]
        | some ad => simp [Builtin.append_, run_underlying ht, sizeOf, typeInfo, hi, Builtin.lenOf, Builtin.firstCells, loadCells, loadCellsFrom, hnc, storeCells]
    exact .inl ⟨v, W, hrun _ _ (by simpa using hr), by simpa using h W v R hST (by simpa using hR)⟩
  rcases hsrc with h0 | ⟨ad, rfl, hcells⟩
  · exact absurd h0 hm0
  obtain ⟨v', W', hr, hown', hgrow, hnil, hwhere⟩ := run_append_own_at (P := P) W 0 t ty e i z k by_ ht hi hz hsz hby hzs hk0 v l.length (l.map enc).flatten hown ad m.length c (m.map enc).flatten (flat_length hk m) hcells hone hbb.2 hbb.1 (Nat.zero_le _)
  have hdr := run_drawn _ _ _ _ hr
  refine .inl ⟨v', W', hrun _ _ hr, ?_⟩
  have hlen : (l ++ m).length = l.length + m.length := by simp
  rcases hown'.2 with ⟨_, h0⟩ | ⟨g', cap', cur', rfl, _, hg', hnc', hcm', hcs', htk'⟩
  · omega
  have hrow' : Row e enc k (.slice (some ⟨g', 0, none⟩) (l.length + m.length) cap') (l ++ m) [(g', .cells cur' e (0, 0))] :=
    .inr ⟨g', cap', cur', by rw [hlen], rfl, by omega, hcm', hcs', by rw [hlen, htk']; simp⟩
  refine h W' _ _ ?_ hrow'
  have hnd := hST.nd
  rcases hR with ⟨rfl, rfl, rfl⟩ | ⟨g, cap, cur, rfl, rfl, q1, q2, q3, q4⟩
  · -- nil: a new block
    have hnew : W.heap.size ≤ g' := by
      rcases hwhere with h | h <;> simp [Value.ownBlock] at h
      omega
    have hex : Ex dd W W' := ⟨hgrow.os, hgrow.tape, hgrow.output, Low.of hdr, hgrow.size, fun b hb => hgrow.block b hb (by simp [Value.ownBlock])⟩
    have h1 := hST.call0 hex
    refine ⟨h1.os, h1.tape, h1.output, h1.drawn, h1.size, h1.old, h1.mem, fun b o hb => ?_, ?_⟩
    · simp only [List.mem_append, List.mem_singleton] at hb
      rcases hb with hb | hb | hb
      · exact h1.box b o (by simp [hb])
      · cases hb
        refine ⟨hg', ?_, .inl (Nat.le_trans hST.size hnew)⟩
        cases hm : μ g' with
        | none => rfl
        | some x => have := hST.mu_lt hm; omega
      · exact h1.box b o (by simp [hb])
    · simp only [List.nil_append, List.map_append, List.map_cons, List.singleton_append] at hnd ⊢
      refine (List.Perm.nodup_iff List.perm_middle).2 (List.nodup_cons.2 ⟨fun hm => ?_, hnd⟩)
      rw [← List.map_append] at hm
      obtain ⟨⟨b, o⟩, hb, e1⟩ := List.mem_map.1 hm
      have hb' : (b, o) ∈ X ++ ([] ++ Y) := by simpa using hb
      have := hST.box_lt hb'
      simp at e1
      omega
  · by_cases hgg : g' = g
    · subst hgg
      have h0 : ST dd F w W μ (X ++ (g', Obj.cells cur e (0, 0)) :: Y) := by simpa using hST
      have hold : ∀ b, b < W.heap.size → b ≠ g' → W'.heap[b]? = W.heap[b]? := fun b hb hne => hgrow.block b hb (by simp [Value.ownBlock]; exact hne)
      have hnd0 := h0.nd
      simp only [List.map_append, List.map_cons] at hnd0
      have hne : ∀ b o, (b, o) ∈ X ++ Y → b ≠ g' := fun b o hb e1 => by
        subst e1
        rcases List.mem_append.1 hb with hb | hb
        · exact (List.nodup_append.1 hnd0).2.2 b (List.mem_map.2 ⟨_, hb, rfl⟩) b (by simp) rfl
        · exact (List.nodup_cons.1 (List.nodup_append.1 hnd0).2.1).1 (List.mem_map.2 ⟨_, hb, rfl⟩)
      have hgb := h0.box g' (Obj.cells cur e (0, 0)) (by simp)
      refine ⟨hgrow.os.trans hST.os, hgrow.tape.trans hST.tape, hgrow.output.trans hST.output, Low.trans hST.drawn (Low.of hdr), Nat.le_trans hST.size hgrow.size, fun b hb hF => ?_, fun b o hb => ?_, fun b o hb => ?_, by simpa using hnd0⟩
      · rw [hold b (Nat.lt_of_lt_of_le hb hST.size) (fun e1 => by subst e1; rcases hgb.2.2 with h | h; omega; exact hF h)]
        exact hST.old b hb hF
      · rw [hold b (hST.mu_lt hb) (fun e1 => by subst e1; rw [hgb.2.1] at hb; cases hb)]
        exact hST.mem b o hb
      · simp only [List.mem_append, List.mem_singleton] at hb
        rcases hb with hb | hb | hb
        · obtain ⟨r1, r2⟩ := hST.box b o (by simp [hb])
          exact ⟨by rw [hold b (lt_of_heap r1) (hne b o (by simp [hb]))]; exact r1, r2⟩
        · cases hb; exact ⟨hg', hgb.2⟩
        · obtain ⟨r1, r2⟩ := hST.box b o (by simp [hb])
          exact ⟨by rw [hold b (lt_of_heap r1) (hne b o (by simp [hb]))]; exact r1, r2⟩
    · have hnew : W.heap.size ≤ g' := by
        rcases hwhere with h | h <;> simp [Value.ownBlock] at h
        · exact absurd h hgg
        · omega
      have h0 : ST dd F w W μ (X ++ (g, Obj.cells cur e (0, 0)) :: Y) := by simpa using hST
      have hgb := h0.box g (Obj.cells cur e (0, 0)) (by simp)
      have hnd0 := h0.nd
      simp only [List.map_append, List.map_cons] at hnd0
      have hne : ∀ b o, (b, o) ∈ X ++ Y → b ≠ g := fun b o hb e1 => by
        subst e1
        rcases List.mem_append.1 hb with hb | hb
        · exact (List.nodup_append.1 hnd0).2.2 b (List.mem_map.2 ⟨_, hb, rfl⟩) b (by simp) rfl
        · exact (List.nodup_cons.1 (List.nodup_append.1 hnd0).2.1).1 (List.mem_map.2 ⟨_, hb, rfl⟩)
      have hold : ∀ b, b < W.heap.size → b ≠ g → W'.heap[b]? = W.heap[b]? := fun b hb hne => hgrow.block b hb (by simp [Value.ownBlock]; exact hne)
      refine ⟨hgrow.os.trans hST.os, hgrow.tape.trans hST.tape, hgrow.output.trans hST.output, Low.trans hST.drawn (Low.of hdr), Nat.le_trans hST.size hgrow.size, fun b hb hF => ?_, fun b o hb => ?_, fun b o hb => ?_, ?_⟩
      · rw [hold b (Nat.lt_of_lt_of_le hb hST.size) (fun e1 => by subst e1; rcases hgb.2.2 with h | h; omega; exact hF h)]
        exact hST.old b hb hF
      · rw [hold b (hST.mu_lt hb) (fun e1 => by subst e1; rw [hgb.2.1] at hb; cases hb)]
        exact hST.mem b o hb
      · simp only [List.mem_append, List.mem_singleton] at hb
        rcases hb with hb | hb | hb
        · obtain ⟨r1, r2⟩ := hST.box b o (by simp [hb])
          exact ⟨by rw [hold b (lt_of_heap r1) (hne b o (by simp [hb]))]; exact r1, r2⟩
        · cases hb
          refine ⟨hg', ?_, .inl (Nat.le_trans hST.size hnew)⟩
          cases hm : μ g' with
          | none => rfl
          | some x => have := hST.mu_lt hm; omega
        · obtain ⟨r1, r2⟩ := hST.box b o (by simp [hb])
          exact ⟨by rw [hold b (lt_of_heap r1) (hne b o (by simp [hb]))]; exact r1, r2⟩
      · have hXY : (X.map (·.1) ++ Y.map (·.1)).Nodup := (List.nodup_cons.1 ((List.Perm.nodup_iff List.perm_middle).1 hnd0)).2
        simp only [List.map_append, List.map_cons, List.singleton_append]
        refine (List.Perm.nodup_iff List.perm_middle).2 (List.nodup_cons.2 ⟨fun hm => ?_, hXY⟩)
        rw [← List.map_append] at hm
        obtain ⟨⟨b, o⟩, hb, e1⟩ := List.mem_map.1 hm
        have := hST.box_lt (b := b) (o := o) (by rcases List.mem_append.1 hb with h | h <;> simp [h])
        simp at e1
        omega
end
end Go.Proofs.YtmlncblocfcmiaaGreat
namespace Go.Proofs.YtmlncblocfcmiaaGreat
open Go.RowKit
def envOf (l : List Value) : Nat → Value := fun t => l.getD t undef
def retQ (P : Program) (fn : Func) (R : Ending → World → Prop) : Post
  | .normal, E, W | .ret, E, W => ∃ v, (∀ tmps : Array Value, (∀ t, tmps.getD t undef = E t) → (results fn tmps).run P W = .ok v W) ∧ R (.returned v) W
  | _, _, _ => False
theorem calls_of_CW {P : Program} {f : FuncId} {fn : Func} {c : Code} {args : List Value} {w : World} {R : Ending → World → Prop} {n : Nat}
    (hf : P.funcs[f]? = some fn) (hb : fn.body = some c) (hn : fn.ntmps = n) (ha : args.length ≤ n)
    (h : CW P n c (retQ P fn R) (envOf args) w) : Calls P f args.toArray w R := by
  refine calls_of_wp hf hb ?_
  have hag : Ag n { tmps := args.toArray ++ Array.replicate (fn.ntmps - args.toArray.size) undef, defers := [] } (envOf args) := by
    refine ⟨by simp; omega, rfl, fun t => ?_⟩
    simp only [envOf, Array.getD_eq_getD_getElem?, List.getD_eq_getElem?_getD, Array.getElem?_append, Array.getElem?_replicate, List.size_toArray, List.getElem?_toArray]
    by_cases ht : t < args.length
    · rw [if_pos ht]
    · rw [if_neg ht, List.getElem?_eq_none (by omega)]
      split <;> simp
  refine wp_mono (h _ hag) (fun e a w' hl => ?_)
  cases e with
  | normal =>
    obtain ⟨E, hE, v, hv, hR⟩ := hl
    exact ⟨hE.2.1, v, hv _ hE.2.2, hR⟩
  | ret =>
    obtain ⟨E, hE, v, hv, hR⟩ := hl
    exact ⟨hE.2.1, v, hv _ hE.2.2, hR⟩
  | exit id => obtain ⟨E, hE, h⟩ := hl; exact h.elim
  | goto l => obtain ⟨E, hE, h⟩ := hl; exact h.elim
  | panic c => exact hl.elim
  | outgrown => exact hl.elim
section
variable {P : Program} {fn : Func} {R : Ending → World → Prop} {E : Nat → Value} {W : World}
theorem retQ_1 {r : Tmp} {v : Value} (hr : fn.results = #[.tmp r]) (hv : E r = v) (h : R (.returned v) W) : retQ P fn R .ret E W :=
  ⟨v, fun tmps ht => by rw [results_tmp hr, ht, hv], h⟩
theorem retQ_2 {r s : Tmp} {v u : Value} (hr : fn.results = #[.tmp r, .tmp s]) (hv : E r = v) (hu : E s = u) (h : R (.returned (.tuple #[v, u])) W) : retQ P fn R .ret E W :=
  ⟨.tuple #[v, u], fun tmps ht => by rw [results_tmp2 hr, ht, ht, hv, hu], h⟩
theorem retQ_0 (hr : fn.results = #[]) (h : R (.returned (.tuple #[])) W) : retQ P fn R .ret E W :=
  ⟨.tuple #[], fun tmps _ => by rw [results_none hr], h⟩
theorem retQ_n (h : retQ P fn R .ret E W) : retQ P fn R .normal E W := h
end
section
variable {Q : Post} {E : Nat → Value} {W : World} {K : (Nat → Value) → World → Prop} {id j : Nat}
theorem bq_n (h : Q .normal E W) : blockQ id Q .normal E W := h
theorem bq_r (h : Q .ret E W) : blockQ id Q .ret E W := h
theorem bq_e (h : Q .normal E W) : blockQ id Q (.exit id) E W := by simp [blockQ]; exact h
theorem sq_n (h : K E W) : seqQ K Q .normal E W := h
theorem sq_r (h : Q .ret E W) : seqQ K Q .ret E W := h
theorem sq_e (h : Q (.exit j) E W) : seqQ K Q (.exit j) E W := h
end
theorem wrap_succ {i N : Nat} (hi : i < N) (hN : N ≤ 9223372036854775807) : IntKind.i64.wrap ((i : Int) + 1) = ((i + 1 : Nat) : Int) := by
  rw [IntWalk.i64_in _ (by omega)]
  omega
theorem CW_range {P : Program} {n : Nat} {Q : Post} {E : Nat → Value} {W : World} {id0 id1 r2 r6 tc ti tn ts : Nat} {t1 t2 t3 t4 t5 t6 t7 : TypeId} {p1 p2 p3 : String} {f1 f2 f3 : Array Edge} {body : Code}
    (I : Nat → (Nat → Value) → World → Prop) (N : Nat) (hN : N ≤ 9223372036854775807) (h0 : I 0 E W) (hc : tc < n) (hs : ts < n) (hti : ti < n)
    (hI : ∀ i E W, I i E W → E ti = .int .i64 (i : Nat) ∧ E tn = .int .i64 (N : Nat))
    (round : ∀ i E W, i < N → I i E W → CW P n (.block id1 body) (seqQ (fun E' W' => E' ti = .int .i64 (i : Nat) ∧ I (i + 1) (upd (upd E' ts (.int .i64 ((i + 1 : Nat) : Int))) ti (.int .i64 ((i + 1 : Nat) : Int))) W') (blockQ id0 Q)) (upd E tc (.bool true)) W)
    (done : ∀ E W, I N E W → Q .normal (upd E tc (.bool false)) W) :
    CW P n (.block id0 (.loop (.seq (.region r2 #[⟨some tc, .binOp .lss t1 (.tmp ti) (.tmp tn) t2, t3, p1, f1, none⟩] false)
      (.seq (.cond (.tmp tc) .skip (.exit id0)) (.seq (.block id1 body)
        (.region r6 #[⟨some ts, .binOp .add t4 (.tmp ti) (.const (.int .i64 1)) t5, t6, p2, f2, none⟩, ⟨some ti, .move (.tmp ts), t7, p3, f3, none⟩] false)))))) Q E W := by
  refine CW_block (CW_loop (fun m E W => ∃ i, i ≤ N ∧ m = N - i ∧ I i E W) N ⟨0, Nat.zero_le _, by omega, h0⟩ ?_)
  rintro m E W ⟨i, hi, rfl, hIi⟩
  obtain ⟨hE1, hE2⟩ := hI i E W hIi
  refine CW_seq (CW_region (LW_v (.inl rfl) rfl hc (R_int hE1 hE2 rfl) (LW_nil ?_)))
  refine sq_n (CW_seq ?_)
  have e1 : upd E tc (.bool (decide ((i : Int) < (N : Int)))) tc = .bool (decide ((i : Int) < (N : Int))) := by simp [upd]
  by_cases hlt : i < N
  · have hd : decide ((i : Int) < (N : Int)) = true := by simp; omega
    rw [hd] at e1 ⊢
    refine CW_if_true e1 (CW_skip (sq_n (CW_seq ?_)))
    refine CW_mono (round i E W hlt hIi) (fun e E' W' h => ?_)
    cases e with
    | normal =>
      obtain ⟨h1, h2⟩ := h
      refine sq_n ?_
      have hw : IntKind.i64.wrap ((i : Int) + 1) = ((i + 1 : Nat) : Int) := wrap_succ hlt hN
      refine CW_region (LW_v (v := .int .i64 ((i + 1 : Nat) : Int)) (.inl rfl) rfl hs (R_int (k := .i64) (a := (i : Int)) (b := 1) h1 rfl (by simp only [intOp, hw])) ?_)
      refine LW_v (v := .int .i64 ((i + 1 : Nat) : Int)) (.inl rfl) rfl hti (R_move (by simp [evE, upd])) (LW_nil ?_)
      exact sq_n ⟨N - (i + 1), by omega, i + 1, by omega, rfl, h2⟩
    | exit j => exact h
    | goto l => exact h
    | ret => exact h
    | panic c => exact h
    | outgrown => exact h
  · have hd : decide ((i : Int) < (N : Int)) = false := by simp; omega
    rw [hd] at e1 ⊢
    obtain rfl : i = N := by omega
    refine CW_if_false e1 (CW_exit (sq_e (sq_e (bq_e ?_))))
    exact done E W hIi
theorem CW_cut {P : Program} {n : Nat} {x : Code} {Q : Post} {K : (Nat → Value) → World → Prop} {E : Nat → Value} {W : World} (J : (Nat → Value) → World → Prop) (h : CW P n x (seqQ J Q) E W) (k : ∀ E W, J E W → K E W) : CW P n x (seqQ K Q) E W :=
  CW_mono h (fun e E W h => by cases e <;> first | exact k E W h | exact h)
theorem if_t {α : Type} {c : Bool} {x y : α} {r : α} (hc : c = true) (h : (if c = true then x else y) = r) : x = r := by rw [if_pos hc] at h; exact h
theorem if_f {α : Type} {c : Bool} {x y : α} {r : α} (hc : c = false) (h : (if c = true then x else y) = r) : y = r := by rw [if_neg (by rw [hc]; decide)] at h; exact h
theorem bind_some {α β : Type} {o : Option α} {f : α → Option β} {r : β} (h : o.bind f = some r) : ∃ y, o = some y ∧ f y = some r := by
  cases o with
  | none => cases h
  | some y => exact ⟨y, rfl, h⟩
theorem bool_cases (b : Bool) : b = true ∨ b = false := by cases b <;> simp
theorem drop_cons {α : Type} {l : List α} {i : Nat} (h : i < l.length) : ∃ x xs, l.drop i = x :: xs ∧ l[i]? = some x ∧ l.drop (i + 1) = xs := by
  cases hd : l.drop i with
  | nil => have := congrArg List.length hd; simp at this; omega
  | cons x xs => exact ⟨x, xs, rfl, by rw [← List.head?_drop, hd]; rfl, by rw [← List.drop_drop, hd]; rfl⟩
theorem eqFields_nil {P : Program} {W : World} (d : Nat) (xs ys : Array Value) : (Op.eqFields d xs ys []).run P W = .ok true W := by simp [Op.eqFields]
theorem eqFields_cons {P : Program} {W : World} {d : Nat} {xs ys : Array Value} {f : Field} {fs : List Field} {a b : Value} {r s : Bool} (hn : f.name ≠ "_") (ha : (part f.type xs f.offset).run P W = .ok a W) (hb : (part f.type ys f.offset).run P W = .ok b W)
    (he : (Op.equalIn d f.type a b).run P W = .ok r W) (h : (Op.eqFields d xs ys fs).run P W = .ok s W) : (Op.eqFields d xs ys (f :: fs)).run P W = .ok (r && s) W := by
  simp only [Op.eqFields, ne_eq, hn, not_false_eq_true, if_true, Sem.run_bind, ha, hb, he, Result.andThen_ok]
  cases r <;> simp [h]
theorem part_agg {P : Program} {W : World} {t : TypeId} {k : Nat} {cs : Array Value} {off : Nat} {v : Array Value} (hA : ∀ w, (isAgg t).run P w = .ok true w) (hS : ∀ w, (sizeOf t).run P w = .ok k w) (hv : cs.extract off (off + k) = v) : (part t cs off).run P W = .ok (.agg v) W := by
  simp [part, hA W, hS W, hv]
theorem part_one {P : Program} {W : World} {t : TypeId} {cs : Array Value} {off : Nat} {v : Value} (hA : ∀ w, (isAgg t).run P w = .ok false w) (hv : cs[off]? = some v) : (part t cs off).run P W = .ok v W := by
  simp [part, hA W, hv]
def beqS (a b : ByteArray) : Bool := a.toList == b.toList
theorem eqS {P : Program} {t : TypeId} (ht : P.underlying t = some .string) (d : Nat) (a b : ByteArray) (W : World) : (Op.equalIn (d + 1) t (.string a) (.string b)).run P W = .ok (beqS a b) W := run_equalIn_string W d t a b ht
theorem eqI {P : Program} {t : TypeId} {k : IntKind} (ht : P.underlying t = some (.int k)) (d : Nat) (a b : Int) (W : World) : (Op.equalIn (d + 1) t (.int k a) (.int k b)).run P W = .ok (a == b) W := run_equalIn_int W d t k k a b ht
theorem guard_agg {P : Program} {op : BinOp} {t : TypeId} {x y : Operand} {a b : Array Value} (hg : P.eqGuardType P.depth t = false) (W : World) : (eqGuard op t x y (.agg a) (.agg b)).run P W = .ok () W := by
  cases op <;> simp [eqGuard] <;> (intro h; rw [hg] at h; cases h)
theorem bin_eql {P : Program} {t : TypeId} {a b : Array Value} {r : Bool} (h : ∀ W, (Op.equalIn Op.maxDepth t (.agg a) (.agg b)).run P W = .ok r W) (W : World) : (binOp .eql t (.agg a) (.agg b)).run P W = .ok (.bool r) W := by
  simp [binOp, Op.equal, h W]
theorem bin_neq {P : Program} {t : TypeId} {a b : Array Value} {r : Bool} (h : ∀ W, (Op.equalIn Op.maxDepth t (.agg a) (.agg b)).run P W = .ok r W) (W : World) : (binOp .neq t (.agg a) (.agg b)).run P W = .ok (.bool !r) W := by
  simp [binOp, Op.equal, h W]
end Go.Proofs.YtmlncblocfcmiaaGreat
namespace Go.Proofs.YtmlncblocfcmiaaGreat
open Go.RowKit
variable {dd : Bool}
def encIk (k : IntKind) (x : Int) : List Value := [.int k x]
def encSk (x : ByteArray) : List Value := [.string x]
theorem oneI (k : IntKind) (x : Int) : ∀ u ∈ encIk k x, u.oneCell' = true := by intro u hu; simp [encIk] at hu; subst hu; rfl
theorem oneS (x : ByteArray) : ∀ u ∈ encSk x, u.oneCell' = true := by intro u hu; simp [encSk] at hu; subst hu; rfl
def zS : ByteArray := ⟨#[]⟩
def ltS (a b : ByteArray) : Bool := Op.bytesLess a.toList b.toList
@[irreducible] def FUEL : Nat := 18446744073709551616
theorem FUEL_eq : FUEL = 18446744073709551616 := by unfold FUEL; rfl
def idx {α : Type} (l : List α) (i : Int) : Option α := if 0 ≤ i then l[i.toNat]? else none
theorem idx_nonneg {α : Type} {l : List α} {i : Int} {x : α} (h : idx l i = some x) : 0 ≤ i := by
  unfold idx at h; split at h
  · assumption
  · cases h
theorem idx_get {α : Type} {l : List α} {i : Int} {x : α} (h : idx l i = some x) : l[i.toNat]? = some x := by
  unfold idx at h; split at h
  · exact h
  · cases h
theorem idx_nat {α : Type} (l : List α) (i : Nat) : idx l (i : Int) = l[i]? := by simp [idx]
def idxS (s : ByteArray) (i : Int) : Option UInt8 := if 0 ≤ i then s[i.toNat]? else none
theorem idxS_nonneg {s : ByteArray} {i : Int} {x : UInt8} (h : idxS s i = some x) : 0 ≤ i := by
  unfold idxS at h; split at h
  · assumption
  · cases h
theorem idxS_get {s : ByteArray} {i : Int} {x : UInt8} (h : idxS s i = some x) : s[i.toNat]? = some x := by
  unfold idxS at h; split at h
  · exact h
  · cases h
section
variable {F : Nat → Prop} {w W : World} {μ : Mem} {L L' : List (Nat × Obj)} {α : Type} {e : TypeId} {enc : α → List Value} {k : Nat} {v : Value} {l : List α} {R : List (Nat × Obj)}
theorem ST.at_ (h : ST dd F w W μ L) {b : Nat} {o : Obj} (hb : (b, o) ∈ L) : hp W b = some o := (h.box b o hb).1
theorem Row.slM (h : Row e enc k v l R) (hk : ∀ x, (enc x).length = k) (hST : ST dd F w W μ L) (hR : ∀ p, p ∈ R → p ∈ L) : Sl (Pl enc) k (hp W) v l :=
  h.sl hk (fun _ _ hb => hST.at_ (hR _ hb))
theorem Row.form (h : Row e enc k v l R) : ∃ A c, v = .slice A l.length c := by
  rcases h with ⟨rfl, rfl, rfl⟩ | ⟨g, cap, cur, rfl, rfl, h1, h2, h3, h4⟩
  · exact ⟨_, _, rfl⟩
  · exact ⟨_, _, rfl⟩
theorem Sl.form {R : Rep α} (h : Sl R k μ v l) : ∃ A c, v = .slice A l.length c := let ⟨A, c, h, _⟩ := h; ⟨A, c, h⟩
theorem Row.frM (h : Row e enc k v l R) (hST : ST dd NoF w W μ L) (hR : ∀ p, p ∈ R → p ∈ L) : Fr w.heap.size v := by
  rcases h with ⟨rfl, rfl, rfl⟩ | ⟨g, cap, cur, rfl, rfl, h1, h2, h3, h4⟩
  · exact Fr.nil _
  · intro b hb
    simp [Value.ownBlock] at hb
    subst hb
    rcases (hST.box g (.cells cur e (0, 0)) (hR _ (List.mem_singleton.2 rfl))).2.2 with h | h
    · exact h
    · exact h.elim
theorem Sl.lit {b m : Nat} {cs : Array Value} (hk : ∀ x, (enc x).length = k) (hm : l.length = m) (hM : m ≤ maxLen) (hc : cs.toList = (l.map enc).flatten) (hb : μ b = some (.cells cs e (0, 0))) : Sl (Pl enc) k μ (.slice (some ⟨b, 0, none⟩) m m) l :=
  (Row.lit (e := e) (b := b) hm hM hc (by have := congrArg List.length hc; rw [flat_length hk, Array.length_toList, hm] at this; exact this)).sl hk (fun b' o h => by simp at h; obtain ⟨rfl, rfl⟩ := h; exact hb)
theorem Fr.box (h : ST dd NoF w W μ L) {b m c : Nat} {o : Obj} (hb : (b, o) ∈ L) : Fr w.heap.size (.slice (some ⟨b, 0, none⟩) m c) := by
  intro b' hb'
  simp [Value.ownBlock] at hb'
  subst hb'
  rcases (h.box b o hb).2.2 with h | h
  · exact h
  · exact h.elim
theorem ST.perm (h : ST dd F w W μ L) (hp : L.Perm L') : ST dd F w W μ L' :=
  ⟨h.os, h.tape, h.output, h.drawn, h.size, h.old, h.mem, fun b o hb => h.box b o (hp.mem_iff.2 hb), (hp.map _).nodup_iff.1 h.nd⟩
theorem ST.sublist (h : ST dd F w W μ L) (hs : L'.Sublist L) : ST dd F w W μ L' :=
  ⟨h.os, h.tape, h.output, h.drawn, h.size, h.old, h.mem, fun b o hb => h.box b o (hs.subset hb), h.nd.sublist (hs.map _)⟩
end
section
variable {E : Nat → Value} {x1 x2 x3 x4 x5 x6 : Operand} {v1 v2 v3 v4 v5 v6 : Value}
theorem args0 : (#[] : Array Operand).map (evE E) ++ (#[] : Array Value) = [].toArray := by simp
theorem args1 (h1 : evE E x1 = v1) : #[x1].map (evE E) ++ (#[] : Array Value) = [v1].toArray := by simp [h1]
theorem args2 (h1 : evE E x1 = v1) (h2 : evE E x2 = v2) : #[x1, x2].map (evE E) ++ (#[] : Array Value) = [v1, v2].toArray := by simp [h1, h2]
theorem args3 (h1 : evE E x1 = v1) (h2 : evE E x2 = v2) (h3 : evE E x3 = v3) : #[x1, x2, x3].map (evE E) ++ (#[] : Array Value) = [v1, v2, v3].toArray := by simp [h1, h2, h3]
theorem args4 (h1 : evE E x1 = v1) (h2 : evE E x2 = v2) (h3 : evE E x3 = v3) (h4 : evE E x4 = v4) : #[x1, x2, x3, x4].map (evE E) ++ (#[] : Array Value) = [v1, v2, v3, v4].toArray := by simp [h1, h2, h3, h4]
end
theorem foldl_put : ∀ (v : List Value) (i off : Nat) (cells : Array Value), off + i + v.length ≤ cells.size →
    (v.zipIdx i).foldl (fun cs (c, j) => cs.setIfInBounds (off + j) c) cells = (cells.toList.take (off + i) ++ v ++ cells.toList.drop (off + i + v.length)).toArray
  | [], i, off, cells, h => by simp
  | c :: v, i, off, cells, h => by
    simp only [List.zipIdx_cons, List.foldl_cons]
    simp only [List.length_cons] at h
    rw [foldl_put v (i + 1) off _ (by simp; omega)]
    have hlt : off + i < cells.toList.length := by simp; omega
    congr 1
    rw [Array.toList_setIfInBounds]
    apply List.ext_getElem?
    intro j
    have hs : (cells.toList.take (off + i)).length = off + i := by simp; omega
    by_cases h1 : j < off + i
    · simp only [List.getElem?_append, List.length_append, List.length_take, List.length_set, Array.length_toList, List.length_cons, List.getElem?_take, List.getElem?_set, List.getElem?_drop]
      rw [show min (off + (i + 1)) cells.size = off + (i + 1) by omega, show min (off + i) cells.size = off + i by omega]
      rw [if_pos (by omega), if_pos (by omega), if_pos (by omega), if_neg (by omega), if_pos (by omega), if_pos (by omega), if_pos (by omega)]
    · by_cases h2 : j = off + i
      · subst h2
        simp [List.getElem?_append, List.getElem?_take, List.getElem?_set, show off + i < off + (i + 1) by omega]
        rw [if_pos (by omega), if_pos (by omega), if_neg (by omega), show off + i - min (off + i) cells.size = 0 by omega]
        rfl
      · simp only [List.getElem?_append, List.length_append, List.length_take, List.length_set, Array.length_toList, List.length_cons, List.getElem?_take, List.getElem?_set, List.getElem?_drop]
        rw [show min (off + (i + 1)) cells.size = off + (i + 1) by omega, show min (off + i) cells.size = off + i by omega]
        by_cases h3 : j < off + (i + 1) + v.length
        · rw [if_pos h3, if_neg (by omega), if_pos (by omega), if_neg (by omega)]
          rw [show j - (off + i) = (j - (off + (i + 1))) + 1 by omega]
          simp
        · rw [if_neg h3, if_neg (by omega), if_neg (by omega)]
          congr 1
          omega
theorem fill_all {k : Nat} : ∀ (vs : List Value) (i : Nat) (pre rest : List Value), (∀ v ∈ vs, v.cells.size = k) → pre.length = i * k → rest.length = vs.length * k →
    Instr.fill (fun i => some (i * k, k)) (pre ++ rest).toArray ((vs.zipIdx i).map (fun p => (p.2, p.1))) = some (pre ++ vs.flatMap (fun v => v.cells.toList)).toArray
  | [], i, pre, rest, hv, hp, hr => by
    have : rest = [] := by cases rest <;> simp at hr ⊢
    simp [Instr.fill, this]
  | v :: vs, i, pre, rest, hv, hp, hr => by
    have hvk := hv v (by simp)
    have hz : v.cells.zipIdx.foldl (fun cs (c, j) => cs.setIfInBounds (i * k + j) c) (pre ++ rest).toArray = (pre ++ v.cells.toList ++ rest.drop k).toArray := by
      have := foldl_put v.cells.toList 0 (i * k) (pre ++ rest).toArray (by simp [hp, hr, hvk, Nat.add_mul])
      rw [← Array.toList_zipIdx, Array.foldl_toList] at this
      rw [this]
      congr 1
      simp [← hp, hvk]
    simp only [List.zipIdx_cons, List.map_cons, Instr.fill]
    rw [if_neg (by simp [hvk, hp, hr, Nat.add_mul]), hz]
    have := fill_all vs (i + 1) (pre ++ v.cells.toList) (rest.drop k) (fun u hu => hv u (by simp [hu])) (by simp [hp, hvk, Nat.add_mul]) (by simp [hr, Nat.add_mul])
    rw [this]
    simp
theorem fill_lit {k m : Nat} {cs0 cs : Array Value} {qs : Array (Nat × Value)} (vs : List Value) (hq : qs.toList = vs.zipIdx.map (fun p => (p.2, p.1))) (hv : ∀ v ∈ vs, v.cells.size = k) (hm : vs.length = m) (hs : cs0.size = m * k)
    (hc : (vs.flatMap (fun v => v.cells.toList)).toArray = cs) : Instr.fill (fun i => some (i * k, k)) cs0 qs.toList = some cs := by
  subst hm hc
  rw [hq]
  have := fill_all vs 0 [] cs0.toList hv (by simp) (by simpa using hs)
  simpa using this
theorem run_lit {P : Program} {t e : TypeId} {m k : Nat} {z : Value} {qs : Array (Nat × Value)} {cs : Array Value} (vs : List Value) (ht : P.underlying t = some (.slice e)) (hs : ∀ w, (sizeOf e).run P w = .ok k w) (hz : ∀ w, (zeroValue e).run P w = .ok z w)
    (hm : m * k ≤ 16777216) (hq : qs.toList = vs.zipIdx.map (fun p => (p.2, p.1))) (hv : ∀ v ∈ vs, v.cells.size = k) (hl : vs.length = m) (hc : (vs.flatMap (fun v => v.cells.toList)).toArray = cs) (W : World) :
    (Instr.buildSlice t m qs).run P W = .ok (.slice (some ⟨W.heap.size, 0, none⟩) m m) (W.alloc (.cells cs e (0, 0))) :=
  run_buildSlice ht hs hz hm (fill_lit vs hq hv hl (by simp) hc) W
theorem parts0 {E : Nat → Value}  : (#[] : Array (Nat × Operand)).map (fun (i, x) => (i, evE E x)) = #[] := by simp
theorem parts1 {E : Nat → Value} {x0 : Operand} {v0 : Value} {i0 : Nat} (h0 : evE E x0 = v0) : (#[(i0, x0)] : Array (Nat × Operand)).map (fun (i, x) => (i, evE E x)) = #[(i0, v0)] := by simp [h0]
theorem parts2 {E : Nat → Value} {x0 x1 : Operand} {v0 v1 : Value} {i0 i1 : Nat} (h0 : evE E x0 = v0) (h1 : evE E x1 = v1) : (#[(i0, x0), (i1, x1)] : Array (Nat × Operand)).map (fun (i, x) => (i, evE E x)) = #[(i0, v0), (i1, v1)] := by simp [h0, h1]
theorem parts3 {E : Nat → Value} {x0 x1 x2 : Operand} {v0 v1 v2 : Value} {i0 i1 i2 : Nat} (h0 : evE E x0 = v0) (h1 : evE E x1 = v1) (h2 : evE E x2 = v2) : (#[(i0, x0), (i1, x1), (i2, x2)] : Array (Nat × Operand)).map (fun (i, x) => (i, evE E x)) = #[(i0, v0), (i1, v1), (i2, v2)] := by simp [h0, h1, h2]
theorem parts4 {E : Nat → Value} {x0 x1 x2 x3 : Operand} {v0 v1 v2 v3 : Value} {i0 i1 i2 i3 : Nat} (h0 : evE E x0 = v0) (h1 : evE E x1 = v1) (h2 : evE E x2 = v2) (h3 : evE E x3 = v3) : (#[(i0, x0), (i1, x1), (i2, x2), (i3, x3)] : Array (Nat × Operand)).map (fun (i, x) => (i, evE E x)) = #[(i0, v0), (i1, v1), (i2, v2), (i3, v3)] := by simp [h0, h1, h2, h3]
theorem FieldAt_of {P : Program} {t : TypeId} {f off : Nat} {fs : Array Field} {fd : Field} (ht : P.underlying t = some (.struct fs)) (hf : fs[f]? = some fd) {k : Nat} (hs : ∀ w, (sizeOf fd.type).run P w = .ok k w) (hk : k ≠ 0) (ho : fd.offset = off) : FieldAt P t f off := by
  intro b o w
  subst ho
  simp [Instr.fieldAt, run_underlying ht, hf, Instr.sureAddr, fieldPlace, Addr.add_lit, hs w, hk]
theorem LW_q {P : Program} {n : Nat} {Q : Post} {E : Nat → Value} {W : World} {ops : Array Oper} {rest : List Oper} {A : Value → Prop} {o : Oper} {dd : Nat} (hw : Wanted n ops E o) (hd : o.dst = some dd) (hn : dd < n)
    (hr : ∃ p, A p ∧ ∀ W, Runs P E o W p W) (h : ∀ p, A p → LW P n ops Q rest (upd E dd p) W) : LW P n ops Q (o :: rest) E W := by
  obtain ⟨p, h1, h2⟩ := hr
  exact LW_v hw hd hn (h2 W) (h p h1)
end Go.Proofs.YtmlncblocfcmiaaGreat
namespace Go.Proofs.YtmlncblocfcmiaaGreat
open Go.RowKit
variable {dd : Bool}
theorem CW_tail {P : Program} {n : Nat} {x : Code} {Q : Post} {E : Nat → Value} {W : World} (h : CW P n x (seqQ (fun E W => Q .normal E W) Q) E W) : CW P n x Q E W :=
  CW_mono h (fun e E W h => by cases e <;> exact h)
section
variable {P : Program} {n : Nat} {Q : Post} {E : Nat → Value} {W : World} {d : Option Nat} {ty : TypeId} {pos : String} {af : Array Edge} {g : Option (Nat × Bool)}
  {F : Nat → Prop} {w : World} {μ : Mem} {L : List (Nat × Obj)}
def divOp (k : IntKind) (op : BinOp) (a b : Int) : Option Value :=
  match op with
  | .quo => some (.int k (k.wrap (a.tdiv b)))
  | .rem => some (.int k (a.tmod b))
  | .and => some (.int k (k.wrap (BitVec.ofInt k.bits a &&& BitVec.ofInt k.bits b).toNat))
  | .or => some (.int k (k.wrap (BitVec.ofInt k.bits a ||| BitVec.ofInt k.bits b).toNat))
  | _ => none
theorem R_div {op : BinOp} {tx tv : TypeId} {x y : Operand} {k : IntKind} {a b : Int} {v : Value} (hx : evE E x = .int k a) (hy : evE E y = .int k b) (h0 : b ≠ 0) (hv : divOp k op a b = some v) :
    Runs P E ⟨d, .binOp op tx x y tv, ty, pos, af, g⟩ W v W := by
  show (do let r ← (do eqGuard op tx x y (evE E x) (evE E y); binOp op tx (evE E x) (evE E y)); pure (.value r) : Sem Next).run P W = _
  rw [hx, hy]
  cases op <;> simp [divOp] at hv <;> subst hv <;> simp [eqGuard, binOp, Op.intDiv, Op.intBits, h0]
theorem R_shr {tx tv : TypeId} {x y : Operand} {k k' : IntKind} {a b : Int} (hx : evE E x = .int k a) (hy : evE E y = .int k' b) (h0 : 0 ≤ b) :
    Runs P E ⟨d, .binOp .shr tx x y tv, ty, pos, af, g⟩ W (.int k (a.fdiv (2 ^ min b.toNat k.bits))) W := by
  show (do let r ← (do eqGuard .shr tx x y (evE E x) (evE E y); binOp .shr tx (evE E x) (evE E y)); pure (.value r) : Sem Next).run P W = _
  rw [hx, hy]
  simp [eqGuard, binOp, Op.shift, show ¬ b < 0 by omega]
theorem R_convInt {s t : TypeId} {x : Operand} {k k' : IntKind} {a : Int} {u : TypeDesc} (hs : P.underlying s = some u) (ht : P.underlying t = some (.int k)) (hx : evE E x = .int k' a) :
    Runs P E ⟨d, .convert s t x, ty, pos, af, g⟩ W (.int k (k.wrap a)) W := by
  show (do pure (.value (← convert s t (evE E x))) : Sem Next).run P W = _
  rw [hx]
  simp [convert, run_underlying hs, run_underlying ht, Conv.intToInt]
theorem equalIn_sl_nil {t e : TypeId} (dd : Nat) (ht : P.underlying t = some (.slice e)) (A : Option Addr) (l c : Nat) (W : World) : (Op.equalIn (dd + 1) t (.slice A l c) (.slice none 0 0)).run P W = .ok A.isNone W := by
  cases A <;> simp [Op.equalIn, run_underlying ht]
theorem R_slEqNil {tx tv e : TypeId} {x y : Operand} {A : Option Addr} {l c : Nat} (ht : P.underlying tx = some (.slice e)) (hx : evE E x = .slice A l c) (hy : evE E y = .slice none 0 0) :
    Runs P E ⟨d, .binOp .eql tx x y tv, ty, pos, af, g⟩ W (.bool A.isNone) W := by
  show (do let r ← (do eqGuard .eql tx x y (evE E x) (evE E y); binOp .eql tx (evE E x) (evE E y)); pure (.value r) : Sem Next).run P W = _
  rw [hx, hy]
  have h0 := equalIn_sl_nil 9999 ht A l c W
  simp [eqGuard, binOp, Op.equal, show Op.maxDepth = 9999 + 1 from rfl, h0]
def bytesI (s : ByteArray) : List Int := s.data.toList.map (fun b => (b.toNat : Int))
def bytesB (s : ByteArray) : Option (List Int) := if s.size ≤ maxLen then some (bytesI s) else none
theorem bytesI_length (s : ByteArray) : (bytesI s).length = s.size := by simp only [bytesI, List.length_map, Array.length_toList]; rfl
theorem bytesI_row {s : ByteArray} {cap i : Nat} {x : Int} (h : (bytesI s)[i]? = some x) : (bytesRow s cap)[i]? = some (.int .u8 x) := by
  have hi : i < s.size := by have := (List.getElem?_eq_some_iff.1 h).1; rwa [bytesI_length] at this
  have hi' : i < s.data.size := hi
  simp [bytesI] at h
  obtain ⟨b, hb, rfl⟩ := h
  rw [bytesRow, Array.getElem?_append_left (by simpa using hi')]
  simp [hb]
theorem E_bytesOf {K : Value → World → Prop} {s t e : TypeId} {x : Operand} {str : ByteArray} {l : List Int} (hST : ST dd F w W μ L) (hs : P.underlying s = some .string) (hd : P.underlying t = some (.slice e)) (he : P.underlying e = some (.int .u8)) (hx : evE E x = .string str) (hb : bytesB str = some l)
    (h : ∀ W' v μ', ST dd F w W' μ' L → Sub μ μ' → Lo F w μ μ' → Sl (Pl (encIk .u8)) 1 μ' v l → Fr w.heap.size v → K v W') : Eff P E ⟨d, .convert s t x, ty, pos, af, g⟩ W K := by
  unfold bytesB at hb
  split at hb
  case isFalse => cases hb
  rename_i hm
  cases hb
  have hrun := run_bytes_of_string (P := P) W s t e str hs hd he
  have h1 := hST.drew.alloc (.cells (bytesRow str (grownCap W str.size 0 e)) e ((bytesRow str (grownCap W str.size 0 e)).size, (bytesRow str (grownCap W str.size 0 e)).size + 1))
  refine .inl ⟨.slice (some ⟨W.heap.size, 0, none⟩) str.size (grownCap W str.size 0 e), _, ?_, h _ _ _ (ST.publish (A := []) h1) (ST.pub_sub (A := []) h1) (ST.lo_pub (A := []) h1) ?_ ?_⟩
  · show (do pure (.value (← convert s t (evE E x))) : Sem Next).run P W = _
    rw [hx]
    simp only [Sem.run_bind, hrun, Result.andThen_ok, Sem.run_pure]
  · refine ⟨_, grownCap W str.size 0 e, by rw [bytesI_length], by rw [bytesI_length]; exact grownCap_ge W str.size 0 e, grownCap_le_maxLen W str.size 0 e hm, fun _ => ⟨W.heap.size, 0, bytesRow str (grownCap W str.size 0 e), e, _, rfl, if_pos rfl, fun i x hx => ⟨_, rfl, rfl, fun j y hy => ?_⟩⟩⟩
    cases j with
    | zero => simp [encIk] at hy; subst hy; simpa using bytesI_row hx
    | succ j => simp [encIk] at hy
  · intro b hb
    simp [Value.ownBlock] at hb
    subst hb
    exact hST.size
def strI (l : List Int) : ByteArray := l.foldl (fun r n => r.push (UInt8.ofNat n.toNat)) ByteArray.empty
theorem R_strOf {s t e : TypeId} {x : Operand} {v : Value} {l : List Int} (hs : P.underlying s = some (.slice e)) (he : P.underlying e = some (.int .u8)) (hd : P.underlying t = some .string) (hx : evE E x = v) (hv : Sl (Pl (encIk .u8)) 1 (hp W) v l) :
    Runs P E ⟨d, .convert s t x, ty, pos, af, g⟩ W (.string (strI l)) W := by
  show (do pure (.value (← convert s t (evE E x))) : Sem Next).run P W = _
  obtain ⟨A, c, rfl, h2, h3, h4⟩ := hv
  rw [hx]
  simp only [Sem.run_bind, run_convert_bytes_string W s t e A l.length c hs he hd]
  rcases Nat.eq_zero_or_pos l.length with h0 | h0
  · have : l = [] := List.length_eq_zero_iff.1 h0
    subst this
    cases A with
    | none => simp [Conv.bytesToString, strI]
    | some a =>
      have h5 := run_bytesToString (P := P) W a 0 c [] (by simpa using run_loadCells_list (P := P) W a [] (by simp))
      simp only [List.length_nil]
      rw [h5]
      simp [strI]
  · obtain ⟨b, off, cs, T, fr, rfl, h6, h7⟩ := h4 h0
    have hl := run_loadCells_list (P := P) W ⟨b, off, none⟩ (l.map (Value.int .u8)) (fun j v hj => by
      simp at hj
      obtain ⟨x, hx1, rfl⟩ := hj
      obtain ⟨ys, _, hys, h12⟩ := h7 j x hx1
      cases hys
      rw [Addr.add_lit, cell_of_row W b (off + j) cs T fr h6]
      have := h12 0 (.int .u8 x) rfl
      simpa using this)
    simp only [List.length_map] at hl
    rw [run_bytesToString W _ l.length c l hl]
    simp [strI]
end
end Go.Proofs.YtmlncblocfcmiaaGreat
namespace Go.Proofs.YtmlncblocfcmiaaGreat
open Go.RowKit
variable {dd : Bool}
def keys (L : List (Nat × Obj)) : Nat → Prop := fun b => ∃ o, (b, o) ∈ L
structure ExF (dd : Bool) (F : Nat → Prop) (w W : World) : Prop where
  os : W.os = w.os
  tape : W.tape = w.tape
  output : W.output = w.output
  drawn : Low dd w.drawn W.drawn
  size : w.heap.size ≤ W.heap.size
  old : ∀ b, b < w.heap.size → ¬ F b → W.heap[b]? = w.heap[b]?
def Held (L : List (Nat × Obj)) (W : World) : Prop := ∀ b o, (b, o) ∈ L → W.heap[b]? = some o
structure Back (dd : Bool) (L0 L1 : List (Nat × Obj)) (w w' : World) : Prop where
  ex : ExF dd (keys L0) w w'
  held : ∀ b o, (b, o) ∈ L1 → w'.heap[b]? = some o ∧ (w.heap.size ≤ b ∨ keys L0 b)
  nd : (L1.map (·.1)).Nodup
open Classical in
noncomputable def hpx (w : World) (L : List (Nat × Obj)) : Mem := fun b => if keys L b then none else w.heap[b]?
open Classical in
noncomputable def growX (μ : Mem) (W W' : World) (L1 : List (Nat × Obj)) : Mem := fun b => if b < W.heap.size then μ b else if keys L1 b then none else W'.heap[b]?
section
variable {F : Nat → Prop} {w W W' : World} {μ μ' : Mem} {L L0 L1 : List (Nat × Obj)}
theorem ST.startM (hh : Held L0 w) (hn : (L0.map (·.1)).Nodup) : ST dd (keys L0) w w (hpx w L0) L0 :=
  ⟨rfl, rfl, rfl, Low.of (Nat.le_refl _), Nat.le_refl _, fun _ _ _ => rfl, fun b o h => by
    unfold hpx at h; split at h
    · cases h
    · exact h, fun b o h => ⟨hh b o h, by unfold hpx; rw [if_pos ⟨o, h⟩], .inr ⟨o, h⟩⟩, hn⟩
theorem nd_disj {A B : List (Nat × Obj)} (h : ((A ++ B).map (·.1)).Nodup) {b : Nat} {o : Obj} (hb : (b, o) ∈ B) : ¬ keys A b := by
  rintro ⟨o', ho⟩
  rw [List.map_append] at h
  exact (List.nodup_append.1 h).2.2 b (List.mem_map.2 ⟨_, ho, rfl⟩) b (List.mem_map.2 ⟨_, hb, rfl⟩) rfl
theorem ST.back (h : ST dd F w W μ (L0 ++ L)) (hb : Back dd L0 L1 W W') : ST dd F w W' (growX μ W W' L1) (L1 ++ L) := by
  have hk : ∀ b, keys L0 b → b < W.heap.size ∧ μ b = none ∧ (w.heap.size ≤ b ∨ F b) := fun b ⟨o, ho⟩ => by
    obtain ⟨h1, h2, h3⟩ := h.box b o (List.mem_append_left _ ho)
    exact ⟨lt_of_heap h1, h2, h3⟩
  refine ⟨hb.ex.os.trans h.os, hb.ex.tape.trans h.tape, hb.ex.output.trans h.output, Low.trans h.drawn hb.ex.drawn, Nat.le_trans h.size hb.ex.size, fun b hlt hF => ?_, fun b o ho => ?_, fun b o ho => ?_, ?_⟩
  · rw [hb.ex.old b (Nat.lt_of_lt_of_le hlt h.size) (fun hkb => by
      rcases (hk b hkb).2.2 with h | h
      · omega
      · exact hF h)]
    exact h.old b hlt hF
  · unfold growX at ho
    split at ho
    · rename_i hlt
      rw [hb.ex.old b hlt (fun hkb => by rw [(hk b hkb).2.1] at ho; cases ho)]
      exact h.mem b o ho
    · split at ho
      · cases ho
      · exact ho
  · rcases List.mem_append.1 ho with ho | ho
    · obtain ⟨h1, h2⟩ := hb.held b o ho
      refine ⟨h1, ?_, ?_⟩
      · unfold growX
        split
        · rename_i hlt
          rcases h2 with h2 | h2
          · omega
          · exact (hk b h2).2.1
        · rw [if_pos ⟨o, ho⟩]
      · rcases h2 with h2 | h2
        · exact .inl (Nat.le_trans h.size h2)
        · exact (hk b h2).2.2
    · obtain ⟨h1, h2, h3⟩ := h.box b o (List.mem_append_right _ ho)
      refine ⟨?_, ?_, h3⟩
      · rw [hb.ex.old b (lt_of_heap h1) (nd_disj h.nd ho)]; exact h1
      · unfold growX; rw [if_pos (lt_of_heap h1)]; exact h2
  · rw [List.map_append]
    have hL : (L.map (·.1)).Nodup := by have := h.nd; rw [List.map_append] at this; exact (List.nodup_append.1 this).2.1
    refine List.nodup_append.2 ⟨hb.nd, hL, fun a ha c hc e => ?_⟩
    subst e
    obtain ⟨⟨b, o⟩, ho, rfl⟩ := List.mem_map.1 ha
    obtain ⟨⟨b', o'⟩, ho', e⟩ := List.mem_map.1 hc
    simp at e; subst e
    have hlt := h.box_lt (List.mem_append_right _ ho')
    rcases (hb.held b' o ho).2 with h2 | h2
    · omega
    · exact nd_disj h.nd ho' h2
theorem ST.lo_growX (h : ST dd F w W μ L) (W' : World) (L1 : List (Nat × Obj)) : Lo F w μ (growX μ W W' L1) := fun b hb _ => if_pos (Nat.lt_of_lt_of_le hb h.size)
theorem ST.growX_sub (h : ST dd F w W μ L) (W' : World) (L1 : List (Nat × Obj)) : Sub μ (growX μ W W' L1) := fun b o hb => by
  unfold growX; rw [if_pos (h.mu_lt hb)]; exact hb
theorem ST.sub_hpx (h : ST dd F w W μ L) (hL : ∀ p, p ∈ L0 → p ∈ L) : Sub μ (hpx W L0) := fun b o hb => by
  unfold hpx
  rw [if_neg]
  · exact h.mem b o hb
  · rintro ⟨o', ho⟩
    rw [(h.box b o' (hL _ ho)).2.1] at hb
    cases hb
theorem Back.of_ex (h : Ex dd w W) (hh : ∀ b o, (b, o) ∈ L1 → W.heap[b]? = some o ∧ w.heap.size ≤ b) (hn : (L1.map (·.1)).Nodup) : Back dd [] L1 w W :=
  ⟨⟨h.os, h.tape, h.output, h.drawn, h.size, fun b hb _ => h.old b hb⟩, fun b o hb => ⟨(hh b o hb).1, .inl (hh b o hb).2⟩, hn⟩
end
def GivesM (dd : Bool) (P : Program) (f : FuncId) (args : List Value) (w : World) (L0 : List (Nat × Obj)) (K : Value → List (Nat × Obj) → World → Prop) : Prop :=
  Calls P f args.toArray w fun e w' => ∃ v L1, e = .returned v ∧ Back dd L0 L1 w w' ∧ K v L1 w'
def GivesRow (dd : Bool) {α : Type} (P : Program) (f : FuncId) (args : List Value) (w : World) (e : TypeId) (enc : α → List Value) (k : Nat) (l : List α) : Prop :=
  GivesM dd P f args w [] fun v R _ => Row e enc k v l R
theorem Back.weak {L0 L1 : List (Nat × Obj)} {w w' : World} (h : Back true L0 L1 w w') : Back dd L0 L1 w w' := ⟨⟨h.ex.os, h.ex.tape, h.ex.output, Low.of (h.ex.drawn rfl), h.ex.size, h.ex.old⟩, h.held, h.nd⟩
theorem Gives.weak {P : Program} {f : FuncId} {args : List Value} {w : World} {v : Value} (h : Gives true P f args w v) : Gives dd P f args w v := Calls.mono h fun _ _ h => ⟨h.1, h.2.weak⟩
theorem GivesM.weak {P : Program} {f : FuncId} {args : List Value} {w : World} {L0 : List (Nat × Obj)} {K : Value → List (Nat × Obj) → World → Prop} (h : GivesM true P f args w L0 K) : GivesM dd P f args w L0 K := Calls.mono h fun _ _ ⟨v, L1, h1, h2, h3⟩ => ⟨v, L1, h1, h2.weak, h3⟩
theorem GivesRow.weak {α : Type} {P : Program} {f : FuncId} {args : List Value} {w : World} {e : TypeId} {enc : α → List Value} {k : Nat} {l : List α} (h : GivesRow true P f args w e enc k l) : GivesRow dd P f args w e enc k l := GivesM.weak h
section
variable {P : Program} {E : Nat → Value} {W : World} {d : Option Nat} {ty : TypeId} {pos : String} {af : Array Edge} {g : Option (Nat × Bool)}
  {F : Nat → Prop} {w : World} {μ : Mem} {L : List (Nat × Obj)}
theorem E_givesM {K : Value → World → Prop} {K' : Value → List (Nat × Obj) → World → Prop} {f : FuncId} {fv : Operand} {ax : Array Operand} {ats : Array TypeId} {caps : Array Value} {args : List Value} (L0 L2 : List (Nat × Obj)) (hST : ST dd F w W μ L) (hL : L.Perm (L0 ++ L2))
    (hf : evE E fv = .func (.func f) #[] caps) (he : ∀ args w, (callFunc f args).run P w = .ok (.enter f args) w) (ha : ax.map (evE E) ++ caps = args.toArray) (hc : GivesM dd P f args W L0 K')
    (h : ∀ W' v μ' L1, ST dd F w W' μ' (L1 ++ L2) → Sub μ μ' → Lo F w μ μ' → K' v L1 W' → K v W') : Eff P E ⟨d, .call ⟨.value fv, ax, ats⟩, ty, pos, af, g⟩ W K :=
  E_calls hf he ha (Calls.mono hc (fun _ W' ⟨v, L1, h1, h2, h3⟩ => ⟨v, h1, h W' v _ L1 ((hST.perm hL).back h2) ((hST.perm hL).growX_sub W' L1) ((hST.perm hL).lo_growX W' L1) h3⟩))
theorem E_givesRow {K : Value → World → Prop} {α : Type} {e : TypeId} {enc : α → List Value} {k : Nat} {l : List α} {f : FuncId} {fv : Operand} {ax : Array Operand} {ats : Array TypeId} {caps : Array Value} {args : List Value} (X Y : List (Nat × Obj)) (hST : ST dd F w W μ (X ++ Y))
    (hf : evE E fv = .func (.func f) #[] caps) (he : ∀ args w, (callFunc f args).run P w = .ok (.enter f args) w) (ha : ax.map (evE E) ++ caps = args.toArray) (hc : GivesRow dd P f args W e enc k l)
    (h : ∀ W' v μ' R, ST dd F w W' μ' (X ++ (R ++ Y)) → Sub μ μ' → Lo F w μ μ' → Row e enc k v l R → K v W') : Eff P E ⟨d, .call ⟨.value fv, ax, ats⟩, ty, pos, af, g⟩ W K :=
  E_givesM [] (X ++ Y) hST (.refl _) hf he ha hc (fun W' v μ' L1 h1 h2 h4 h3 => h W' v μ' L1 (h1.perm (by rw [← List.append_assoc, ← List.append_assoc]; exact List.perm_append_comm.append_right Y)) h2 h4 h3)
end
theorem ST.backRow {w W : World} {μ : Mem} {L R : List (Nat × Obj)} (h : ST dd NoF w W μ L) (hR : ∀ p, p ∈ R → p ∈ L) (hn : (R.map (·.1)).Nodup) : Back dd [] R w W :=
  Back.of_ex h.ex (fun b o hb => ⟨(h.box b o (hR _ hb)).1, by
    rcases (h.box b o (hR _ hb)).2.2 with h | h
    · exact h
    · exact h.elim⟩) hn
theorem R_lenRow {P : Program} {E : Nat → Value} {W : World} {d : Option Nat} {ty : TypeId} {pos : String} {af : Array Edge} {g : Option (Nat × Bool)} {α : Type} {e' : TypeId} {enc : α → List Value} {k : Nat} {v : Value} {l : List α} {R : List (Nat × Obj)} {x : Operand} {t e : TypeId} (ht : P.underlying t = some (.slice e)) (hx : evE E x = v) (h : Row e' enc k v l R) : Runs P E ⟨d, .call ⟨.builtin .len, #[x], #[t]⟩, ty, pos, af, g⟩ W (.int .i64 l.length) W := by
  obtain ⟨A, c, rfl⟩ := h.form
  exact R_lenSl ht hx
section
variable {α : Type} {e : TypeId} {enc : α → List Value} {k : Nat} {v : Value} {l : List α} {R : List (Nat × Obj)}
theorem Row.nd (h : Row e enc k v l R) : (R.map (·.1)).Nodup := by
  rcases h with ⟨rfl, rfl, rfl⟩ | ⟨g, cap, cur, rfl, rfl, _⟩ <;> simp
end
end Go.Proofs.YtmlncblocfcmiaaGreat
namespace Go.Proofs.YtmlncblocfcmiaaGreat
open Go.RowKit
variable {dd : Bool}
def IxR (R : List (Nat × Obj)) (k : Nat) (p : Value) (i : Nat) : Prop := ∃ g o, R = [(g, o)] ∧ p = .pointer (some ⟨g, i * k, none⟩)
section
variable {P : Program} {E : Nat → Value} {W : World} {d : Option Nat} {ty : TypeId} {pos : String} {af : Array Edge} {g : Option (Nat × Bool)}
  {F : Nat → Prop} {w : World} {μ : Mem} {L : List (Nat × Obj)} {α : Type} {e' : TypeId} {enc : α → List Value} {k : Nat} {v : Value} {l : List α} {R : List (Nat × Obj)}
theorem R_indexRow {t e : TypeId} {x ix : Operand} {ik : IntKind} {i : Int} {x0 : α}
    (ht : P.underlying t = some (.slice e)) (he : ∀ w, (sizeOf e).run P w = .ok k w) (hx : evE E x = v) (hi : evE E ix = .int ik i) (h : Row e' enc k v l R) (h0 : 0 ≤ i) (hl : l[i.toNat]? = some x0) :
    ∃ p, IxR R k p i.toNat ∧ ∀ W, Runs P E ⟨d, .indexAddr t x ix, ty, pos, af, g⟩ W p W := by
  have hlt : i.toNat < l.length := (List.getElem?_eq_some_iff.1 hl).1
  rcases h with ⟨rfl, rfl, rfl⟩ | ⟨g', cap, cur, rfl, rfl, h1, h2, h3, h4⟩
  · simp at hlt
  refine ⟨.pointer (some ⟨g', i.toNat * k, none⟩), ⟨_, _, rfl, rfl⟩, fun W => ?_⟩
  show (do pure (.value (← Instr.indexAt t (evE E x) (evE E ix))) : Sem Next).run P W = _
  rw [hx, hi]
  have hb : 0 ≤ i ∧ i < (l.length : Int) := ⟨h0, by omega⟩
  simp [Instr.indexAt, asIntOf, run_underlying ht, he W, hb, Addr.add_lit]
theorem ix_cells (h : Row e' enc k v l R) (hk : ∀ x, (enc x).length = k) {p : Value} {i : Nat} (hp : IxR R k p i) {x0 : α} (hl : l[i]? = some x0) :
    ∃ g cur cap, R = [(g, .cells cur e' (0, 0))] ∧ v = .slice (some ⟨g, 0, none⟩) l.length cap ∧ l.length ≤ cap ∧ cap ≤ maxLen ∧ cur.size = cap * k ∧ cur.toList.take (l.length * k) = (l.map enc).flatten ∧ p = .pointer (some ⟨g, i * k, none⟩) ∧ ∀ j y, (enc x0)[j]? = some y → cur[i * k + j]? = some y := by
  have hlt : i < l.length := (List.getElem?_eq_some_iff.1 hl).1
  rcases h with ⟨rfl, rfl, rfl⟩ | ⟨g', cap, cur, rfl, rfl, h1, h2, h3, h4⟩
  · simp at hlt
  obtain ⟨g2, o, e1, rfl⟩ := hp
  cases e1
  refine ⟨g', cur, cap, rfl, rfl, h1, h2, h3, h4, rfl, fun j y hy => ?_⟩
  have := flat_get hk l i x0 hl j y hy
  rw [← h4] at this
  have hlt2 : i * k + j < l.length * k := by
    have := (List.getElem?_eq_some_iff.1 this).1
    simp at this; omega
  rw [List.getElem?_take_of_lt hlt2] at this
  simpa using this
theorem load_ixA {A : List (Nat × Obj)} (hH : Has μ A W) (hA : ∀ q, q ∈ R → q ∈ A) (h : Row e' enc k v l R) (hk : ∀ x, (enc x).length = k) {p : Value} {i : Nat} (hp : IxR R k p i) {x0 : α} (hl : l[i]? = some x0) {t : TypeId}
    (hG : ∀ w, (isAgg t).run P w = .ok true w) (hS : ∀ w, (sizeOf t).run P w = .ok k w) : (Instr.loadAt t p).run P W = .ok (.agg (enc x0).toArray) W := by
  obtain ⟨g', cur, cap, rfl, rfl, _, _, _, _, rfl, h5⟩ := ix_cells h hk hp hl
  exact run_loadAgg hG (enc x0) (by rw [hk]; exact hS) (hH.2 _ _ (hA _ (List.mem_singleton.2 rfl))) h5
theorem load_ix1 {A : List (Nat × Obj)} (hH : Has μ A W) (hA : ∀ q, q ∈ R → q ∈ A) (h : Row e' enc k v l R) (hk : ∀ x, (enc x).length = k) {p : Value} {i : Nat} (hp : IxR R k p i) {x0 : α} (hl : l[i]? = some x0) {t : TypeId} {y : Value} (hy : enc x0 = [y])
    (hG : ∀ w, (isAgg t).run P w = .ok false w) : (Instr.loadAt t p).run P W = .ok y W := by
  obtain ⟨g', cur, cap, rfl, rfl, _, _, _, _, rfl, h5⟩ := ix_cells h hk hp hl
  exact run_loadOne hG (hH.2 _ _ (hA _ (List.mem_singleton.2 rfl))) (h5 0 y (by rw [hy]; rfl))
theorem flat_set (hk : ∀ x, (enc x).length = k) : ∀ (l : List α) (i : Nat) (y : α), i < l.length → ((l.set i y).map enc).flatten = (l.map enc).flatten.take (i * k) ++ enc y ++ (l.map enc).flatten.drop (i * k + k)
  | [], i, y, h => by simp at h
  | z :: l, 0, y, h => by
    simp [hk]
  | z :: l, i + 1, y, h => by
    have := flat_set hk l i y (by simpa using h)
    simp only [List.set_cons_succ, List.map_cons, List.flatten_cons, this]
    have h1 : (i + 1) * k = (enc z).length + i * k := by rw [hk, Nat.add_mul]; omega
    rw [h1, List.take_length_add_append, Nat.add_assoc, List.drop_length_add_append]
    simp
theorem E_storeRow {K : Value → World → Prop} (X : List (Nat × Obj)) {Y : List (Nat × Obj)} {t : TypeId} {x y : Operand} {p u : Value} {i : Nat} {x0 x1 : α} (hST : ST dd F w W μ (X ++ (R ++ Y))) (h : Row e' enc k v l R) (hk : ∀ x, (enc x).length = k) (h1 : ∀ x, ∀ u ∈ enc x, u.oneCell' = true)
    (hx : evE E x = p) (hy : evE E y = u) (hu : u.cells = (enc x1).toArray) (hp : IxR R k p i) (hl : l[i]? = some x0) (hS : ∀ w, (sizeOf t).run P w = .ok k w)
    (hK : ∀ W' R', ST dd F w W' μ (X ++ (R' ++ Y)) → Row e' enc k v (l.set i x1) R' → K undef W') : Eff P E ⟨d, .store t x y, ty, pos, af, g⟩ W K := by
  have hlt : i < l.length := (List.getElem?_eq_some_iff.1 hl).1
  obtain ⟨g', cur, cap, rfl, rfl, h2, h3, h4, h5, rfl, h6⟩ := ix_cells h hk hp hl
  have hle : i * k + k ≤ cap * k := by
    have : (i + 1) * k ≤ cap * k := Nat.mul_le_mul_right _ (by omega)
    rwa [Nat.add_mul, Nat.one_mul] at this
  have hle2 : i * k + k ≤ l.length * k := by
    have : (i + 1) * k ≤ l.length * k := Nat.mul_le_mul_right _ (by omega)
    rwa [Nat.add_mul, Nat.one_mul] at this
  have hcl : u.cells.size = k := by rw [hu]; simp [hk]
  have hb := (hST.box g' (.cells cur e' (0, 0)) (by simp)).1
  have hlen : l.length * k ≤ cap * k := Nat.mul_le_mul_right _ h2
  refine .inr (.inl ⟨W.setRow g' (cur.toList.take (i * k) ++ (enc x1) ++ cur.toList.drop (i * k + k)).toArray, ?_, hK _ [(g', .cells (cur.toList.take (i * k) ++ (enc x1) ++ cur.toList.drop (i * k + k)).toArray e' (0, 0))] (hST.store _) (.inr ⟨g', cap, _, by simp, rfl, by simpa using h2, h3, ?_, ?_⟩)⟩)
  · show (do Instr.storeAt t (evE E x) (evE E y); pure .skip : Sem Next).run P W = _
    rw [hx, hy]
    have := run_storeBlock P (off := i * k) u (by rw [hcl]; exact hS) (by rw [hu]; simpa using h1 x1) hb (by rw [hcl, h4]; exact hle)
    simp only [Sem.run_bind, this, Result.andThen_ok, Sem.run_pure, hcl]
    rw [hu]
  · show ((cur.toList.take (i * k) ++ (enc x1) ++ cur.toList.drop (i * k + k)).toArray).size = _
    have e0 : cur.toList.length = cap * k := by simpa using h4
    rw [List.size_toArray, List.length_append, List.length_append, List.length_take, List.length_drop, hk, e0, Nat.min_eq_left (by omega)]; omega
  · rw [List.length_set, flat_set hk l i x1 hlt, ← h5]
    have e1 : (cur.toList.take (l.length * k)).take (i * k) = cur.toList.take (i * k) := by rw [List.take_take]; congr 1; omega
    have e2 : (cur.toList.take (l.length * k)).drop (i * k + k) = (cur.toList.drop (i * k + k)).take (l.length * k - (i * k + k)) := by rw [List.drop_take]
    rw [e1, e2]
    show List.take (l.length * k) (cur.toList.take (i * k) ++ enc x1 ++ cur.toList.drop (i * k + k)) = _
    have e0 : cur.toList.length = cap * k := by simpa using h4
    have e3 : (cur.toList.take (i * k) ++ enc x1).length = i * k + k := by rw [List.length_append, List.length_take, hk, e0, Nat.min_eq_left (by omega)]
    rw [List.take_append, List.take_of_length_le (by rw [e3]; exact hle2), e3]
theorem flat_take (hk : ∀ x, (enc x).length = k) : ∀ (l : List α) (i : Nat), i ≤ l.length → ((l.take i).map enc).flatten = (l.map enc).flatten.take (i * k)
  | [], i, h => by simp
  | z :: l, 0, h => by simp
  | z :: l, i + 1, h => by
    have := flat_take hk l i (by simpa using h)
    simp only [List.take_succ_cons, List.map_cons, List.flatten_cons, this]
    rw [show (i + 1) * k = (enc z).length + i * k by rw [hk, Nat.add_mul]; omega, List.take_length_add_append]
theorem R_sliceTo {t e : TypeId} {x ih : Operand} {ik : IntKind} {i : Int} (ht : P.underlying t = some (.slice e)) (he : ∀ w, (sizeOf e).run P w = .ok k w) (hx : evE E x = v) (hi : evE E ih = .int ik i) (h : Row e' enc k v l R) (hk : ∀ x, (enc x).length = k) (h0 : 0 ≤ i) (hl : i ≤ l.length) :
    ∃ v', Row e' enc k v' (l.take i.toNat) R ∧ ∀ W, Runs P E ⟨d, .slice t x none (some ih) none, ty, pos, af, g⟩ W v' W := by
  have hlt : i.toNat ≤ l.length := by omega
  rcases h with ⟨rfl, rfl, rfl⟩ | ⟨g', cap, cur, rfl, rfl, h1, h2, h3, h4⟩
  · have : i = 0 := by simp at hl; omega
    subst this
    refine ⟨.slice none 0 0, .inl ⟨rfl, by simp, rfl⟩, fun W => ?_⟩
    show (do pure (.value (← Instr.sliceAt t (evE E x) none (some (evE E ih)) none)) : Sem Next).run P W = _
    rw [hx, hi]
    simp [Instr.sliceAt, Instr.slice, Instr.sliceBounds, Instr.sliceBound, asIntOf, run_underlying ht, he W]
  · refine ⟨.slice (some ⟨g', 0, none⟩) (l.take i.toNat).length cap, .inr ⟨g', cap, cur, rfl, rfl, by simp; omega, h2, h3, ?_⟩, fun W => ?_⟩
    · have e0 : (l.take i.toNat).length = i.toNat := by rw [List.length_take]; omega
      have hle : i.toNat * k ≤ l.length * k := Nat.mul_le_mul_right _ hlt
      rw [e0, flat_take hk l i.toNat hlt, ← h4, List.take_take, Nat.min_eq_left hle]
    · show (do pure (.value (← Instr.sliceAt t (evE E x) none (some (evE E ih)) none)) : Sem Next).run P W = _
      rw [hx, hi]
      have hb : 0 ≤ i ∧ i ≤ (cap : Int) := ⟨h0, by omega⟩
      simp [Instr.sliceAt, Instr.slice, Instr.sliceBounds, Instr.sliceBound, asIntOf, run_underlying ht, he W, hb, Addr.add_lit]
      omega
theorem R_sliceFrom {Rp : Rep α} {t e : TypeId} {x il : Operand} {ik : IntKind} {i : Int} (ht : P.underlying t = some (.slice e)) (he : ∀ w, (sizeOf e).run P w = .ok k w) (hx : evE E x = v) (hi : evE E il = .int ik i) (h : Sl Rp k μ v l) (h0 : 0 ≤ i) (hl : i ≤ l.length) :
    ∃ v', (Sl Rp k μ v' (l.drop i.toNat) ∧ ∀ B, Fr B v → Fr B v') ∧ ∀ W, Runs P E ⟨d, .slice t x (some il) none none, ty, pos, af, g⟩ W v' W := by
  obtain ⟨A, c, rfl, h2, h3, h4⟩ := h
  have hlt : i.toNat ≤ l.length := by omega
  refine ⟨.slice (if c = i.toNat then A else A.map (·.add (i.toNat * k))) (l.drop i.toNat).length (c - i.toNat), ⟨⟨_, _, rfl, by simp; omega, by omega, fun hp => ?_⟩, fun B hF b hb => ?_⟩, fun W => ?_⟩
  · have hp' : i.toNat < l.length := by simp at hp; omega
    obtain ⟨b, off, cs, T, fr, rfl, h6, h7⟩ := h4 (by omega)
    refine ⟨b, off + i.toNat * k, cs, T, fr, ?_, h6, fun j x hx => ?_⟩
    · rw [if_neg (by omega)]; simp [Addr.add_lit]
    · rw [List.getElem?_drop] at hx
      obtain ⟨ys, h8, h9, h10⟩ := h7 _ x hx
      refine ⟨ys, h8, h9, fun q y hy => ?_⟩
      have := h10 q y hy
      rw [Nat.add_mul] at this
      rw [show off + i.toNat * k + j * k + q = off + (i.toNat * k + j * k) + q by omega]
      exact this
  · refine hF b ?_
    cases A with
    | none => simp [Value.ownBlock] at hb
    | some a =>
      split at hb
      · exact hb
      · obtain ⟨b', o', s'⟩ := a
        cases s' <;> simp [Value.ownBlock, Addr.add] at hb ⊢ <;> split at hb <;> exact hb
  · show (do pure (.value (← Instr.sliceAt t (evE E x) (some (evE E il)) none none)) : Sem Next).run P W = _
    rw [hx, hi]
    have hb : 0 ≤ i ∧ i ≤ (l.length : Int) := ⟨h0, hl⟩
    simp [Instr.sliceAt, Instr.slice, Instr.sliceBounds, Instr.sliceBound, asIntOf, run_underlying ht, he W, hb]
end
end Go.Proofs.YtmlncblocfcmiaaGreat
namespace Go.Proofs.YtmlncblocfcmiaaGreat
open Go.RowKit
variable {dd : Bool}
section
variable {α : Type} {e : TypeId} {enc : α → List Value} {k : Nat} {v : Value} {l : List α} {R : List (Nat × Obj)} {μ : Mem}
theorem Row.one (h : Row e enc k v l R) : v.oneCell' = true := by obtain ⟨A, c, rfl⟩ := h.form; rfl
theorem Sl.one {Rp : Rep α} (h : Sl Rp k μ v l) : v.oneCell' = true := by obtain ⟨A, c, rfl⟩ := h.form; rfl
theorem Sl.isNil {Rp : Rep α} {n c : Nat} (h : Sl Rp k μ (.slice none n c) l) : l = [] := by
  obtain ⟨A, c', h1, h2, h3, h4⟩ := h
  cases h1
  rcases Nat.eq_zero_or_pos l.length with h0 | h0
  · exact List.length_eq_zero_iff.1 h0
  · obtain ⟨b, off, cs, T, fr, h5, _⟩ := h4 h0
    cases h5
theorem Row.isNil {n c : Nat} (h : Row e enc k (.slice none n c) l R) : l = [] := by
  rcases h with ⟨h1, rfl, rfl⟩ | ⟨g, cap, cur, h1, _⟩
  · rfl
  · cases h1
theorem ST.backL {w W : World} {μ : Mem} {L1 L2 : List (Nat × Obj)} (h : ST dd NoF w W μ (L1 ++ L2)) : Back dd [] L1 w W :=
  Back.of_ex h.ex (fun b o hb => ⟨(h.box b o (List.mem_append_left _ hb)).1, by
    rcases (h.box b o (List.mem_append_left _ hb)).2.2 with h | h
    · exact h
    · exact h.elim⟩) (by have := h.nd; rw [List.map_append] at this; exact (List.nodup_append.1 this).1)
theorem ST.backM {w W : World} {μ : Mem} {L0 L1 L2 : List (Nat × Obj)} (h : ST dd (keys L0) w W μ (L1 ++ L2)) : Back dd L0 L1 w W :=
  ⟨⟨h.os, h.tape, h.output, h.drawn, h.size, h.old⟩, fun b o hb => ⟨(h.box b o (List.mem_append_left _ hb)).1, (h.box b o (List.mem_append_left _ hb)).2.2⟩, by have := h.nd; rw [List.map_append] at this; exact (List.nodup_append.1 this).1⟩
end
end Go.Proofs.YtmlncblocfcmiaaGreat
namespace Go.Proofs.YtmlncblocfcmiaaGreat
open Go.RowKit
variable {dd : Bool}
def mget {κ β : Type} (beq : κ → κ → Bool) (l : List (κ × β)) (k : κ) : Option β := (l.find? (fun p => beq k p.1)).map (·.2)
def mput {κ β : Type} (beq : κ → κ → Bool) (l : List (κ × β)) (k : κ) (v : β) : List (κ × β) :=
  match l.findIdx? (fun p => beq k p.1) with
  | some i => l.set i (k, v)
  | none => l ++ [(k, v)]
structure MapOf {κ β : Type} (kenc : κ → Value) (vf : β → Value) (l : List (κ × β)) (es : Array MapEntry) (clock : Nat) : Prop where
  pairs : es.toList.map (fun e => (e.key, e.val)) = l.map (fun p => (kenc p.1, vf p.2))
  born : es.toList.Pairwise (fun a b => a.born < b.born)
  lt : ∀ e ∈ es.toList, e.born < clock
def MapRow {κ β : Type} (kenc : κ → Value) (vf : β → Value) (v : Value) (l : List (κ × β)) (R : List (Nat × Obj)) : Prop :=
  ∃ m es clock, v = .map (some m) ∧ R = [(m, .map es clock)] ∧ MapOf kenc vf l es clock
def MapAt {κ β : Type} (kenc : κ → Value) (vf : β → Value) (μ : Mem) (v : Value) (l : List (κ × β)) : Prop :=
  (v = .map none ∧ l = []) ∨ ∃ m es clock, v = .map (some m) ∧ μ m = some (.map es clock) ∧ MapOf kenc vf l es clock
theorem MapAt.mono {κ β : Type} {kenc : κ → Value} {vf : β → Value} {μ μ' : Mem} {v : Value} {l : List (κ × β)} (h : MapAt kenc vf μ v l) (hs : Sub μ μ') : MapAt kenc vf μ' v l := by
  rcases h with h | ⟨m, es, clock, h1, h2, h3⟩
  · exact .inl h
  · exact .inr ⟨m, es, clock, h1, hs _ _ h2, h3⟩
theorem MapRow.at {κ β : Type} {kenc : κ → Value} {vf : β → Value} {μ : Mem} {v : Value} {l : List (κ × β)} {R : List (Nat × Obj)} (h : MapRow kenc vf v l R) (hR : ∀ b o, (b, o) ∈ R → μ b = some o) : MapAt kenc vf μ v l := by
  obtain ⟨m, es, clock, rfl, rfl, h3⟩ := h
  exact .inr ⟨m, es, clock, rfl, hR _ _ (List.mem_singleton.2 rfl), h3⟩
structure KeyLaw {κ : Type} (P : Program) (kt : TypeId) (kenc : κ → Value) (beq : κ → κ → Bool) : Prop where
  check : ∀ b k W, (Instr.checkKey b 10000 kt (kenc k)).run P W = .ok () W
  find : ∀ (k : κ) (l : List κ) (es : List MapEntry), es.map (·.key) = l.map kenc → ∀ W, (Instr.findKey kt (kenc k) es).run P W = .ok ((l.findIdx? (fun x => beq k x)).bind fun i => (es[i]?).map fun e => (i, e.val)) W
  eq : ∀ k x, beq k x = true → kenc x = kenc k
  bits : ∀ k, Instr.sameBits 10000 (kenc k) (kenc k) = true
section
variable {P : Program} {W : World} {κ : Type} {kt : TypeId} {kenc : κ → Value} {beq : κ → κ → Bool}
theorem findAsking_run (hq : ∀ x y W, (Op.equal kt (kenc x) (kenc y)).run P W = .ok (beq x y) W) (k : κ) : ∀ (l : List κ) (es : List MapEntry) (i : Nat), es.map (·.key) = l.map kenc →
    (Instr.findAsking kt (kenc k) es i).run P W = .ok ((l.findIdx? (fun x => beq k x)).bind fun j => (es[j]?).map fun e => (i + j, e.val)) W
  | [], [], i, h => by simp [Instr.findAsking]
  | [], _ :: _, i, h => by simp at h
  | _ :: _, [], i, h => by simp at h
  | x :: l, e :: es, i, h => by
    simp only [List.map_cons, List.cons.injEq] at h
    obtain ⟨h1, h2⟩ := h
    simp only [Instr.findAsking, Sem.run_bind, h1, hq, Result.andThen_ok, List.findIdx?_cons]
    cases hb : beq k x with
    | true => simp
    | false =>
      simp only [Bool.false_eq_true, if_false]
      rw [findAsking_run hq k l es (i + 1) h2]
      cases l.findIdx? (fun x => beq k x) with
      | none => rfl
      | some j => simp [Nat.add_assoc, Nat.add_comm 1 j]
theorem findNow_agg {kind : TypeDesc} (hk : ∀ a b, Instr.sameNow kind (.agg a) b = none) (a : Array Value) : ∀ (es : List MapEntry) (i : Nat), Instr.findNow kind (.agg a) es i = if es = [] then some none else none
  | [], i => by simp [Instr.findNow]
  | e :: es, i => by simp [Instr.findNow, hk]
theorem KeyLaw.struct {enc : κ → List Value} {fs : Array Field} (ht : P.underlying kt = some (.struct fs)) (hq : ∀ d x y W, (Op.equalIn (d + 10) kt (.agg (enc x).toArray) (.agg (enc y).toArray)).run P W = .ok (beq x y) W)
    (hc : ∀ b k W, (Instr.checkKey b 10000 kt (.agg (enc k).toArray)).run P W = .ok () W) (he : ∀ k x, beq k x = true → x = k) (hb : ∀ k, Instr.sameBits 10000 (.agg (enc k).toArray) (.agg (enc k).toArray) = true) : KeyLaw P kt (fun x => .agg (enc x).toArray) beq where
  check := hc
  find := fun k l es h W => by
    have hq' : ∀ x y W, (Op.equal kt (.agg (enc x).toArray) (.agg (enc y).toArray)).run P W = .ok (beq x y) W := fun x y W => hq 9990 x y W
    simp only [Instr.findKey, Sem.run_bind, run_underlying ht, Result.andThen_ok]
    rw [findNow_agg (fun a b => by cases b <;> rfl)]
    by_cases h0 : es = []
    · subst h0
      have : l = [] := by simpa using h.symm
      subst this
      simp
    · rw [if_neg h0]
      dsimp only
      rw [show Instr.findAsking kt (.agg (enc k).toArray) es = Instr.findAsking kt (.agg (enc k).toArray) es 0 from rfl, findAsking_run hq' k l es 0 h]
      simp
  eq := fun k x h => by rw [he k x h]
  bits := hb
theorem beqS_iff {a b : ByteArray} : beqS a b = true ↔ a = b := by
  unfold beqS
  rw [ByteArray.toList_eq, ByteArray.toList_eq]
  constructor
  · intro h
    have h1 : a.data.toList = b.data.toList := by simpa using h
    exact ByteArray.ext (Array.toList_inj.1 h1)
  · rintro rfl
    simp
theorem bytes_beq (a b : ByteArray) : (a == b) = beqS a b := by
  rw [Bool.eq_iff_iff, beqS_iff]
  constructor
  · intro h
    have h1 : (a.data == b.data) = true := h
    exact ByteArray.ext (by simpa using h1)
  · rintro rfl
    show (a.data == a.data) = true
    simp
theorem findNow_string (k : ByteArray) : ∀ (l : List ByteArray) (es : List MapEntry) (i : Nat), es.map (·.key) = l.map Value.string →
    Instr.findNow .string (.string k) es i = some ((l.findIdx? (fun x => beqS k x)).bind fun j => (es[j]?).map fun e => (i + j, e.val))
  | [], [], i, h => by simp [Instr.findNow]
  | [], _ :: _, i, h => by simp at h
  | _ :: _, [], i, h => by simp at h
  | x :: l, e :: es, i, h => by
    simp only [List.map_cons, List.cons.injEq] at h
    obtain ⟨h1, h2⟩ := h
    simp only [Instr.findNow, h1, Instr.sameNow, bytes_beq, List.findIdx?_cons]
    cases hb : beqS k x with
    | true => simp
    | false =>
      simp only [Bool.false_eq_true, if_false]
      rw [findNow_string k l es (i + 1) h2]
      cases l.findIdx? (fun x => beqS k x) with
      | none => rfl
      | some j => simp [Nat.add_assoc, Nat.add_comm 1 j]
theorem checkKey_string (ht : P.underlying kt = some .string) (n : Nat) (b : Bool) (k : ByteArray) (W : World) : (Instr.checkKey b (n + 1) kt (.string k)).run P W = .ok () W := by
  simp [Instr.checkKey, run_underlying ht]
theorem KeyLaw.string (ht : P.underlying kt = some .string) : KeyLaw P kt Value.string beqS where
  check := fun b k W => checkKey_string ht 9999 b k W
  find := fun k l es h W => by
    simp only [Instr.findKey, Sem.run_bind, run_underlying ht, Result.andThen_ok]
    have := findNow_string k l es 0 h
    rw [this]
    simp
  eq := fun k x h => by rw [beqS_iff.1 h]
  bits := fun k => by simp only [Instr.sameBits]; rw [bytes_beq]; exact beqS_iff.2 rfl
variable {β : Type} {vf : β → Value} {E : Nat → Value} {d : Option Nat} {ty : TypeId} {pos : String} {af : Array Edge} {g : Option (Nat × Bool)} {F : Nat → Prop} {w : World} {μ : Mem} {L : List (Nat × Obj)}
theorem MapOf.keys {l : List (κ × β)} {es : Array MapEntry} {clock : Nat} (h : MapOf kenc vf l es clock) : es.toList.map (·.key) = (l.map (·.1)).map kenc := by
  have := congrArg (List.map Prod.fst) h.pairs
  simpa [Function.comp_def] using this
theorem MapOf.length {l : List (κ × β)} {es : Array MapEntry} {clock : Nat} (h : MapOf kenc vf l es clock) : es.size = l.length := by
  have := congrArg List.length h.pairs
  simpa using this
theorem MapOf.get {l : List (κ × β)} {es : Array MapEntry} {clock : Nat} (h : MapOf kenc vf l es clock) (k : κ) :
    (((l.map (·.1)).findIdx? (fun x => beq k x)).bind fun i => (es.toList[i]?).map fun e => (i, e.val)) = (l.findIdx? (fun p => beq k p.1)).bind fun i => (l[i]?).map fun p => (i, vf p.2) := by
  rw [List.findIdx?_map]
  show ((l.findIdx? (fun p => beq k p.1)).bind _) = _
  congr 1
  funext i
  have := congrArg (fun q => q[i]?) h.pairs
  simp only [List.getElem?_map] at this
  cases h1 : es.toList[i]? with
  | none => rw [h1] at this; cases h2 : l[i]? with
    | none => rfl
    | some p => rw [h2] at this; cases this
  | some e => rw [h1] at this; cases h2 : l[i]? with
    | none => rw [h2] at this; cases this
    | some p => rw [h2] at this; simp at this; simp [this.2]
theorem mget_idx (l : List (κ × β)) (k : κ) : mget beq l k = (l.findIdx? (fun p => beq k p.1)).bind fun i => (l[i]?).map (·.2) := by
  induction l with
  | nil => rfl
  | cons p l ih =>
    simp only [mget, List.find?_cons, List.findIdx?_cons] at ih ⊢
    cases beq k p.1 with
    | true => rfl
    | false =>
      simp only [Bool.false_eq_true, if_false]
      rw [ih]
      cases l.findIdx? (fun p => beq k p.1) <;> simp
theorem R_lookup {t e : TypeId} {m x : Operand} {mv z : Value} {l : List (κ × β)} {k : κ} (K : KeyLaw P kt kenc beq) (ht : P.underlying t = some (.map kt e)) (hz : ∀ w, (zeroValue e).run P w = .ok z w) (hm : evE E m = mv) (hx : evE E x = kenc k) (hM : MapAt kenc vf (hp W) mv l) :
    Runs P E ⟨d, .lookup t m x false, ty, pos, af, g⟩ W (((mget beq l k).map vf).getD z) W := by
  show (do pure (.value (← Instr.lookup t (evE E m) (evE E x) false)) : Sem Next).run P W = _
  rw [hm, hx]
  rcases hM with ⟨rfl, rfl⟩ | ⟨mb, es, clock, rfl, hb, h3⟩
  · have := K.find k [] [] rfl W
    simp [Instr.lookup, run_underlying ht, K.check, this, hz W, mget]
  · have hb' : W.heap[mb]? = some (.map es clock) := hb
    have h5 : ((getObj mb : Sem Obj)).run P W = .ok (.map es clock) W := by simp [getObj, Sem.run, hb']
    have h6 := K.find k _ _ h3.keys W
    rw [h3.get k] at h6
    simp only [Instr.lookup, Sem.run_bind, run_underlying ht, Result.andThen_ok, h5, Sem.run_pure, K.check, h6, mget_idx]
    cases h7 : l.findIdx? (fun p => beq k p.1) with
    | none => simp [hz W]
    | some i =>
      cases h8 : l[i]? with
      | none => simp [h8, hz W]
      | some p => simp [h8]
theorem findIdx_lt {l : List (κ × β)} {k : κ} {i : Nat} (h : l.findIdx? (fun p => beq k p.1) = some i) : ∃ p, l[i]? = some p ∧ beq k p.1 = true := by
  rw [List.findIdx?_eq_some_iff_getElem] at h
  obtain ⟨h1, h2, _⟩ := h
  exact ⟨l[i], List.getElem?_eq_getElem h1, h2⟩
theorem MapOf.put {l : List (κ × β)} {es : Array MapEntry} {clock : Nat} (h : MapOf kenc vf l es clock) (k : κ) (v : β) :
    match l.findIdx? (fun p => beq k p.1) with
    | some i => MapOf kenc vf (l.set i (k, v)) (es.modify i fun e => { e with key := kenc k, val := vf v }) clock
    | none => MapOf kenc vf (l ++ [(k, v)]) (es.push { key := kenc k, val := vf v, born := clock }) (clock + 1) := by
  cases h7 : l.findIdx? (fun p => beq k p.1) with
  | none =>
    refine ⟨?_, ?_, ?_⟩
    · simp [h.pairs]
    · simp only [Array.toList_push, List.pairwise_append]
      exact ⟨h.born, by simp, fun a ha b hb => by simp at hb; subst hb; exact h.lt a ha⟩
    · intro e he
      simp at he
      rcases he with he | rfl
      · exact Nat.lt_succ_of_lt (h.lt e (by simpa using he))
      · exact Nat.lt_succ_self _
  | some i =>
    obtain ⟨p, hp, _⟩ := findIdx_lt h7
    have hi : i < l.length := (List.getElem?_eq_some_iff.1 hp).1
    have hborn : (es.modify i fun e => { e with key := kenc k, val := vf v }).toList.map (·.born) = es.toList.map (·.born) := by
      apply List.ext_getElem?
      intro j
      simp only [List.getElem?_map, Array.getElem?_toList, Array.getElem?_modify]
      split
      · cases es[j]? <;> simp
      · rfl
    refine ⟨?_, ?_, ?_⟩
    · apply List.ext_getElem?
      intro j
      have hj := congrArg (fun q => q[j]?) h.pairs
      simp only [List.getElem?_map, Array.getElem?_toList] at hj
      simp only [List.getElem?_map, Array.getElem?_toList, Array.getElem?_modify, List.getElem?_set]
      by_cases hij : i = j
      · subst hij
        simp only [if_true]
        rw [if_pos hi]
        cases h8 : es[i]? with
        | none => rw [h8, hp] at hj; cases hj
        | some e => rfl
      · rw [if_neg hij, if_neg hij]; exact hj
    · have := h.born
      rw [← List.pairwise_map (f := fun e : MapEntry => e.born) (R := (· < ·))] at this ⊢
      rw [hborn]; exact this
    · intro e he
      have : e.born ∈ es.toList.map (·.born) := by rw [← hborn]; exact List.mem_map.2 ⟨e, he, rfl⟩
      obtain ⟨e', he', h9⟩ := List.mem_map.1 this
      rw [← h9]; exact h.lt e' he'
theorem run_setMap {W : World} {r : Nat} {es : Array MapEntry} {c : Nat} (hr : W.heap[r]? = some (.map es c)) (o' : Obj) : (setObj r o').run P W = .ok () (ChangeMaps.setBlock W r o') := by
  simp [setObj, Sem.run, hr, ChangeMaps.setBlock]
theorem ST.setBlock {A B : List (Nat × Obj)} {b : Nat} {o : Obj} (h : ST dd F w W μ (A ++ (b, o) :: B)) (o' : Obj) : ST dd F w (ChangeMaps.setBlock W b o') μ (A ++ (b, o') :: B) := by
  have hb := (h.box b o (by simp)).1
  have hlt := lt_of_heap hb
  refine h.put ⟨rfl, rfl, rfl, Nat.le_refl _, by simp [ChangeMaps.setBlock]⟩ (fun k hk => ?_) ?_
  · simp only [ChangeMaps.setBlock]
    rw [Array.getElem?_setIfInBounds_ne (fun e => hk e.symm)]
  · simp only [ChangeMaps.setBlock]
    rw [Array.getElem?_setIfInBounds_self_of_lt hlt]
theorem E_mapUpdate {Kk : Value → World → Prop} (X : List (Nat × Obj)) {Y R : List (Nat × Obj)} {t e : TypeId} {m x y : Operand} {mv : Value} {l : List (κ × β)} {k : κ} {v : β} (K : KeyLaw P kt kenc beq) (ht : P.underlying t = some (.map kt e)) (hST : ST dd F w W μ (X ++ (R ++ Y))) (h : MapRow kenc vf mv l R)
    (hm : evE E m = mv) (hx : evE E x = kenc k) (hy : evE E y = vf v) (hK : ∀ W' R', ST dd F w W' μ (X ++ (R' ++ Y)) → MapRow kenc vf mv (mput beq l k v) R' → Kk undef W') : Eff P E ⟨d, .mapUpdate t m x y, ty, pos, af, g⟩ W Kk := by
  obtain ⟨mb, es, clock, rfl, rfl, h3⟩ := h
  have hb : W.heap[mb]? = some (.map es clock) := (hST.box mb (.map es clock) (by simp)).1
  have h5 : ((getObj mb : Sem Obj)).run P W = .ok (.map es clock) W := by simp [getObj, Sem.run, hb]
  have h6 := K.find k _ _ h3.keys W
  rw [h3.get k] at h6
  have hput := h3.put (beq := beq) k v
  have hrun : ∀ W', (Instr.mapUpdate t (.map (some mb)) (kenc k) (vf v)).run P W = .ok () W' → (execOp (evE E) ⟨d, .mapUpdate t m x y, ty, pos, af, g⟩).run P W = .ok .skip W' := by
    intro W' hr
    show (do Instr.mapUpdate t (evE E m) (evE E x) (evE E y); pure .skip : Sem Next).run P W = _
    rw [hm, hx, hy]
    simp [hr]
  cases h7 : l.findIdx? (fun p => beq k p.1) with
  | none =>
    rw [h7] at h6 hput
    refine .inr (.inl ⟨ChangeMaps.setBlock W mb (.map (es.push { key := kenc k, val := vf v, born := clock }) (clock + 1)), hrun _ ?_, hK _ [(mb, _)] (hST.setBlock _) ⟨mb, _, _, rfl, rfl, ?_⟩⟩)
    · simp [Instr.mapUpdate, run_underlying ht, h5, K.check, h6, run_setMap hb]
    · rw [mput, h7]; exact hput
  | some i =>
    obtain ⟨p, hp, hbq⟩ := findIdx_lt h7
    rw [h7] at h6 hput
    simp only [Option.bind_some, hp, Option.map_some] at h6
    have hkey : ((es[i]?).map (·.key)).getD (kenc k) = kenc k := by
      have := congrArg (fun q => q[i]?) h3.keys
      simp only [List.getElem?_map, hp, Option.map_some, Array.getElem?_toList] at this
      rw [this]
      simp [K.eq k p.1 hbq]
    refine .inr (.inl ⟨ChangeMaps.setBlock W mb (.map (es.modify i fun e => { e with key := kenc k, val := vf v }) clock), hrun _ ?_, hK _ [(mb, _)] (hST.setBlock _) ⟨mb, _, _, rfl, rfl, ?_⟩⟩)
    · simp only [Instr.mapUpdate, Sem.run_bind, run_underlying ht, h5, K.check, h6, Result.andThen_ok, hkey, Instr.keyThatStays, K.bits, if_true, Sem.run_pure]
      exact run_setMap hb _
    · rw [mput, h7]; exact hput
theorem E_makeMap {Kk : Value → World → Prop} {t : TypeId} (kenc : κ → Value) (vf : β → Value) (hST : ST dd F w W μ L) (hK : ∀ W' v R, ST dd F w W' μ (R ++ L) → MapRow kenc vf v [] R → Kk v W') : Eff P E ⟨d, .makeMap t none, ty, pos, af, g⟩ W Kk :=
  .inl ⟨.map (some W.heap.size), W.alloc (.map #[] 0), by
      show (do pure (.value (← Instr.makeMap t none)) : Sem Next).run P W = _
      simp [Instr.makeMap, newObj, Sem.run], hK _ _ [(W.heap.size, .map #[] 0)] (hST.alloc _) ⟨_, _, _, rfl, rfl, ⟨rfl, by simp, by simp⟩⟩⟩
end
end Go.Proofs.YtmlncblocfcmiaaGreat
namespace Go.Proofs.YtmlncblocfcmiaaGreat
open Go.RowKit
variable {dd : Bool}
open Classical in
noncomputable def allOrders {α β : Type} (l : List α) (f : List α → Option β) : Option β :=
  if h : ∃ r, ∀ o, o.Perm l → f o = some r then some h.choose else none
theorem allOrders_spec {α β : Type} {l : List α} {f : List α → Option β} {r : β} (h : allOrders l f = some r) : ∀ o, o.Perm l → f o = some r := by
  unfold allOrders at h
  split at h
  · rename_i hx
    cases h
    exact hx.choose_spec
  · cases h
theorem allOrders_intro {α β : Type} {l : List α} {f : List α → Option β} {r : β} (h : ∀ o, o.Perm l → f o = some r) : allOrders l f = some r := by
  have hx : ∃ r, ∀ o, o.Perm l → f o = some r := ⟨r, h⟩
  unfold allOrders
  rw [dif_pos hx]
  have h1 := hx.choose_spec l (.refl l)
  rw [h l (.refl l)] at h1
  exact h1.symm
def Iter {κ β : Type} (kenc : κ → Value) (vf : β → Value) (μ : Mem) (v : Value) (left : List (κ × β)) (R : List (Nat × Obj)) : Prop :=
  ∃ it, v = .pointer (some ⟨it, 0, none⟩) ∧ ((left = [] ∧ ∃ a s c, R = [(it, .mapIter none a s c)]) ∨
    ∃ (m : Nat) (es : Array MapEntry) (clock : Nat) (seen : Array Nat) (c0 : Nat) (l : List (κ × β)), μ m = some (.map es clock) ∧ MapOf kenc vf l es clock ∧ R = [(it, .mapIter (some m) clock seen c0)] ∧ clock ≤ c0 ∧ (leftOf es seen).toList.map (fun e => (e.key, e.val)) = left.map (fun p => (kenc p.1, vf p.2)))
def IterAt {κ β : Type} (kenc : κ → Value) (vf : β → Value) (μ : Mem) (v : Value) (left : List (κ × β)) (R : List (Nat × Obj)) (p : κ × β) : Prop :=
  ∃ (it m : Nat) (es : Array MapEntry) (clock : Nat) (seen : Array Nat) (l : List (κ × β)) (e : MapEntry), v = .pointer (some ⟨it, 0, none⟩) ∧ μ m = some (.map es clock) ∧ MapOf kenc vf l es clock ∧ R = [(it, .mapIter (some m) clock (seen.push e.born) clock)] ∧ e ∈ es.toList ∧ e.key = kenc p.1 ∧ e.val = vf p.2 ∧
    (leftOf es (seen.push e.born)).toList.map (fun e => (e.key, e.val)) = left.map (fun p => (kenc p.1, vf p.2))
section
variable {P : Program} {W : World} {κ β : Type} {kenc : κ → Value} {vf : β → Value} {E : Nat → Value} {d : Option Nat} {ty : TypeId} {pos : String} {af : Array Edge} {g : Option (Nat × Bool)} {F : Nat → Prop} {w : World} {μ : Mem} {L R : List (Nat × Obj)} {v : Value} {left : List (κ × β)}
theorem IterAt.iter {p : κ × β} (h : IterAt kenc vf μ v left R p) : Iter kenc vf μ v left R := by
  obtain ⟨it, m, es, clock, seen, l, e, h1, h2, h3, h4, _, _, _, h5⟩ := h
  exact ⟨it, h1, .inr ⟨m, es, clock, _, _, l, h2, h3, h4, Nat.le_refl _, h5⟩⟩
theorem Iter.mono {μ' : Mem} (h : Iter kenc vf μ v left R) (hs : Sub μ μ') : Iter kenc vf μ' v left R := by
  obtain ⟨it, h1, h | ⟨m, es, clock, seen, c0, l, h2, h3⟩⟩ := h
  · exact ⟨it, h1, .inl h⟩
  · exact ⟨it, h1, .inr ⟨m, es, clock, seen, c0, l, hs _ _ h2, h3⟩⟩
theorem leftOf_push {l : List (κ × β)} {es : Array MapEntry} {clock : Nat} (h : MapOf kenc vf l es clock) (seen : Array Nat) {e : MapEntry} (he : e ∈ (leftOf es seen).toList) :
    ∃ A B, (leftOf es seen).toList = A ++ e :: B ∧ (leftOf es (seen.push e.born)).toList = A ++ B := by
  have hnd : (leftOf es seen).toList.Pairwise (fun a b => a.born < b.born) := by
    simp only [leftOf, Array.toList_filter]
    exact h.born.filter _
  have hf : (leftOf es (seen.push e.born)).toList = (leftOf es seen).toList.filter (fun x => !(x.born == e.born)) := by
    simp only [leftOf, Array.toList_filter, List.filter_filter]
    congr 1
    funext x
    rw [show (seen.push e.born).contains x.born = (seen.contains x.born || x.born == e.born) by rw [Bool.eq_iff_iff]; simp [Array.mem_push]]
    cases seen.contains x.born <;> cases (x.born == e.born) <;> rfl
  obtain ⟨A, B, hAB⟩ := List.append_of_mem he
  refine ⟨A, B, hAB, ?_⟩
  rw [hf, hAB]
  rw [hAB] at hnd
  have h1 := List.pairwise_append.1 hnd
  have h2 := List.pairwise_cons.1 h1.2.1
  simp only [List.filter_append, List.filter_cons, beq_self_eq_true, Bool.not_true, Bool.false_eq_true, if_false]
  congr 1
  · rw [List.filter_eq_self]
    intro a ha
    have := h1.2.2 a ha e (by simp)
    simp; omega
  · rw [List.filter_eq_self]
    intro b hb
    have := h2.1 b hb
    simp; omega
theorem born_nodup {l : List (κ × β)} {es : Array MapEntry} {clock : Nat} (h : MapOf kenc vf l es clock) : (es.toList.map (·.born)).Nodup := by
  rw [List.Nodup, List.pairwise_map]
  exact h.born.imp (fun h => Nat.ne_of_lt h)
theorem R_entry {x : Operand} {p : κ × β} (hH : ∀ q, q ∈ R → W.heap[q.1]? = some q.2) (hm : ∀ b o, μ b = some o → W.heap[b]? = some o) (h : IterAt kenc vf μ v left R p) (hx : evE E x = v) :
    Runs P E ⟨d, .entry x, ty, pos, af, g⟩ W (.tuple #[kenc p.1, vf p.2]) W := by
  obtain ⟨it, m, es, clock, seen, l, e, rfl, h2, h3, rfl, h4, h5, h6, _⟩ := h
  have := run_entry_at (P := P) W it m clock seen es clock e (hH _ (List.mem_singleton.2 rfl)) (hm _ _ h2) h4 (born_nodup h3)
  show (do pure (.value (← Instr.entry (evE E x))) : Sem Next).run P W = _
  rw [hx, ← h5, ← h6]
  simp [this]
end
end Go.Proofs.YtmlncblocfcmiaaGreat
namespace Go.Proofs.YtmlncblocfcmiaaGreat
open Go.RowKit
variable {dd : Bool}
def CbO {α β : Type} (P : Program) (fv : Value) (μ : Mem) (av : α → List Value) (rv : β → Value) (pm : α → Option β) : Prop :=
  ∃ f caps, fv = .func (.func f) #[] caps ∧ (∀ args w, (callFunc f args).run P w = .ok (.enter f args) w) ∧ ∀ W x r, Sub μ (hp W) → pm x = some r → Gives true P f (av x ++ caps.toList) W (rv r)
def CbOk {α β : Type} (P : Program) (fv : Value) (μ : Mem) (av : α → List Value) (rv : β → Value) (pm : α → Option β) : Prop :=
  ∃ f first caps, fv = .func (.func f) first caps ∧ (∀ args w, (callFunc f args).run P w = .ok (.enter f args) w) ∧ ∀ W x r, Sub μ (hp W) → pm x = some r → Gives false P f (first.toList ++ (av x ++ caps.toList)) W (rv r)
theorem CbOk.form {α β : Type} {P : Program} {fv : Value} {μ : Mem} {av : α → List Value} {rv : β → Value} {pm : α → Option β} (h : CbOk P fv μ av rv pm) : ∃ f a b, fv = .func f a b := let ⟨f, a, b, h, _⟩ := h; ⟨_, a, b, h⟩
section
variable {P : Program} {W : World} {E : Nat → Value} {d : Option Nat} {ty : TypeId} {pos : String} {af : Array Edge} {g : Option (Nat × Bool)} {F : Nat → Prop} {w : World} {μ μ0 : Mem} {L : List (Nat × Obj)}
theorem CbOk.mono {α β : Type} {fv : Value} {av : α → List Value} {rv : β → Value} {pm : α → Option β} (h : CbOk P fv μ av rv pm) (hs : Sub μ μ0) : CbOk P fv μ0 av rv pm := by
  obtain ⟨f, first, caps, h1, h2, h3⟩ := h
  exact ⟨f, first, caps, h1, h2, fun W x r h => h3 W x r (hs.trans h)⟩
theorem E_cb {α β : Type} {K : Value → World → Prop} {fv : Value} {av : α → List Value} {rv : β → Value} {pm : α → Option β} {fo : Operand} {ax : Array Operand} {ats : Array TypeId} (x : α) {r : β} (hST : ST false F w W μ L) (hc : CbOk P fv μ0 av rv pm) (hs : Sub μ0 μ)
    (hf : evE E fo = fv) (ha : ax.map (evE E) ++ (#[] : Array Value) = (av x).toArray) (hm : pm x = some r) (h : ∀ W', ST false F w W' μ L → K (rv r) W') : Eff P E ⟨d, .call ⟨.value fo, ax, ats⟩, ty, pos, af, g⟩ W K := by
  obtain ⟨f, first, caps, rfl, h2, h3⟩ := hc
  have ha' : ax.map (evE E) = (av x).toArray := by simpa using ha
  refine .inr (.inr ⟨f, (first.toList ++ (av x ++ caps.toList)).toArray, ?_, Calls.mono (h3 W x r (hs.trans hST.sub_hp) hm) (fun _ _ ⟨h4, h5⟩ => ⟨_, h4, h _ (hST.call0 h5)⟩)⟩)
  show (do let d ← resolve (evE E) ⟨.value fo, ax, ats⟩ ty; invoke d.target d.args : Sem Next).run P W = _
  simp only [resolve, hf, Deferred.ofValue, Sem.run_bind, Sem.run_pure, Result.andThen_ok, invoke, ha', h2]
  congr 2
  simp
end
end Go.Proofs.YtmlncblocfcmiaaGreat
namespace Go.Proofs.YtmlncblocfcmiaaGreat
open Go.RowKit
variable {dd : Bool}
def memL (A : List (Nat × Obj)) : Mem := fun b => (A.find? (fun p => p.1 == b)).map (·.2)
theorem memL_held {A : List (Nat × Obj)} {W : World} (h : ∀ b o, (b, o) ∈ A → W.heap[b]? = some o) : ∀ b o, memL A b = some o → W.heap[b]? = some o := fun b o hb => by
  unfold memL at hb
  cases hf : A.find? (fun p => p.1 == b) with
  | none => rw [hf] at hb; cases hb
  | some p =>
    rw [hf] at hb
    cases hb
    have h1 := List.mem_of_find?_eq_some hf
    have h2 := List.find?_some hf
    simp at h2
    subst h2
    exact h _ _ h1
theorem At.of {M : Mem} {b : Nat} {cs : Array Value} {T : TypeId} {fr : Nat × Nat} (h : M b = some (.cells cs T fr)) (ys : List Value) (hy : cs.toList = ys) : At M (.pointer (some ⟨b, 0, none⟩)) ys :=
  ⟨b, 0, cs, T, fr, rfl, h, fun j y hj => by subst hy; simpa using hj⟩
section
variable {F : Nat → Prop} {w W W' : World} {μ μ' : Mem} {L L0 L1 L2 : List (Nat × Obj)}
theorem ST.hpx_mem (h : ST dd F w W μ L) (hL : L.Perm (L0 ++ L2)) : ∀ b o, (b, o) ∈ L2 → hpx W L0 b = some o := fun b o hb => by
  have h1 := (h.perm hL).at_ (List.mem_append_right _ hb)
  unfold hpx
  rw [if_neg (nd_disj (h.perm hL).nd hb)]
  exact h1
theorem ST.held (h : ST dd F w W μ L) (hL : L.Perm (L0 ++ L2)) : Held L0 W := fun b o hb => ((h.perm hL).box b o (List.mem_append_left _ hb)).1
theorem ST.ndup (h : ST dd F w W μ L) (hL : L.Perm (L0 ++ L2)) : (L0.map (·.1)).Nodup := by
  have := (h.perm hL).nd
  rw [List.map_append] at this
  exact (List.nodup_append.1 this).1
theorem ST.subx (h : ST dd F w W μ L) (hL : L.Perm (L0 ++ L2)) : Sub μ (hpx W L0) := (h.perm hL).sub_hpx (fun _ hp => List.mem_append_left _ hp)
end
section
variable {P : Program} {E : Nat → Value} {W : World} {d : Option Nat} {ty : TypeId} {pos : String} {af : Array Edge} {g : Option (Nat × Bool)}
  {F : Nat → Prop} {w : World} {μ : Mem} {L : List (Nat × Obj)}
theorem E_callM {K : Value → World → Prop} {K' : Value → List (Nat × Obj) → World → Prop} {f : FuncId} {fv : Operand} {ax : Array Operand} {ats : Array TypeId} {caps : Array Value} {args : List Value} (L0 L2 : List (Nat × Obj)) (hST : ST dd F w W μ L) (hL : L.Perm (L0 ++ L2))
    (hf : evE E fv = .func (.func f) #[] caps) (he : ∀ args w, (callFunc f args).run P w = .ok (.enter f args) w) (ha : ax.map (evE E) ++ (#[] : Array Value) = args.toArray)
    (hc : Held L0 W → (L0.map (·.1)).Nodup → Sub μ (hpx W L0) → (∀ b o, (b, o) ∈ L2 → hpx W L0 b = some o) → GivesM dd P f (args ++ caps.toList) W L0 K')
    (h : ∀ W' v μ' L1, ST dd F w W' μ' (L1 ++ L2) → Sub μ μ' → Lo F w μ μ' → (∀ b, W.heap.size ≤ b → ∀ o, hpx W' L1 b = some o → μ' b = some o) → K' v L1 W' → K v W') : Eff P E ⟨d, .call ⟨.value fv, ax, ats⟩, ty, pos, af, g⟩ W K := by
  have ha' : ax.map (evE E) = args.toArray := by simpa using ha
  refine E_calls (args := (args ++ caps.toList).toArray) hf he (by rw [ha']; simp) (Calls.mono (hc (hST.held hL) (hST.ndup hL) (hST.subx hL) (hST.hpx_mem hL)) (fun _ W' ⟨v, L1, h1, h2, h3⟩ => ⟨v, h1, h W' v _ L1 ((hST.perm hL).back h2) ((hST.perm hL).growX_sub W' L1) ((hST.perm hL).lo_growX W' L1) ?_ h3⟩))
  intro b hb o ho
  unfold growX
  rw [if_neg (by omega)]
  exact ho
theorem Sl.lift {α : Type} {enc : α → List Value} {k : Nat} {M μ' : Mem} {B : Nat} {v : Value} {l : List α} (h : Sl (Pl enc) k M v l) (hf : Fr B v) (hM : ∀ b, B ≤ b → ∀ o, M b = some o → μ' b = some o) : Sl (Pl enc) k μ' v l := by
  obtain ⟨A, c, h1, h2, h3, h4⟩ := h
  refine ⟨A, c, h1, h2, h3, fun hl => ?_⟩
  obtain ⟨b, off, cs, T, fr, h5, h6, h7⟩ := h4 hl
  exact ⟨b, off, cs, T, fr, h5, hM b (hf b (by rw [h1, h5]; rfl)) _ h6, h7⟩
theorem equalIn_func_nil {t : TypeId} (dd : Nat) {s u : Array TypeId} {b : Bool} (ht : P.underlying t = some (.func s u b)) (f : Fn) (a c : Array Value) (W : World) : (Op.equalIn (dd + 1) t (.func f a c) .nilFunc).run P W = .ok false W := by
  simp [Op.equalIn, run_underlying ht]
theorem R_funcEqNil {tx tv : TypeId} {x y : Operand} {f : Fn} {a b : Array Value} {s u : Array TypeId} {bb : Bool} (ht : P.underlying tx = some (.func s u bb)) (hx : evE E x = .func f a b) (hy : evE E y = .nilFunc) :
    Runs P E ⟨d, .binOp .eql tx x y tv, ty, pos, af, g⟩ W (.bool false) W := by
  show (do let r ← (do eqGuard .eql tx x y (evE E x) (evE E y); binOp .eql tx (evE E x) (evE E y)); pure (.value r) : Sem Next).run P W = _
  rw [hx, hy]
  have h0 := equalIn_func_nil 9999 ht f a b W
  simp [eqGuard, binOp, Op.equal, show Op.maxDepth = 9999 + 1 from rfl, h0]
end
def mgetD {κ β : Type} (beq : κ → κ → Bool) (l : List (κ × β)) (k : κ) (z : β) : β := (mget beq l k).getD z
section
variable {P : Program} {W : World} {κ β : Type} {kt : TypeId} {kenc : κ → Value} {beq : κ → κ → Bool} {vf : β → Value} {E : Nat → Value} {d : Option Nat} {ty : TypeId} {pos : String} {af : Array Edge} {g : Option (Nat × Bool)} {F : Nat → Prop} {w : World} {μ : Mem} {L R : List (Nat × Obj)} {v : Value} {left : List (κ × β)}
theorem R_lookupD {t e : TypeId} {m x : Operand} {mv : Value} {l : List (κ × β)} {k : κ} {z : β} (K : KeyLaw P kt kenc beq) (ht : P.underlying t = some (.map kt e)) (hz : ∀ w, (zeroValue e).run P w = .ok (vf z) w) (hm : evE E m = mv) (hx : evE E x = kenc k) (hM : MapAt kenc vf (hp W) mv l) :
    Runs P E ⟨d, .lookup t m x false, ty, pos, af, g⟩ W (vf (mgetD beq l k z)) W := by
  have := R_lookup (d := d) (ty := ty) (pos := pos) (af := af) (g := g) K ht hz hm hx hM
  rw [mgetD]
  cases h : mget beq l k with
  | none => rw [h] at this; exact this
  | some y => rw [h] at this; exact this
theorem R_lookupOk {t e : TypeId} {m x : Operand} {mv : Value} {l : List (κ × β)} {k : κ} {z : β} (K : KeyLaw P kt kenc beq) (ht : P.underlying t = some (.map kt e)) (hz : ∀ w, (zeroValue e).run P w = .ok (vf z) w) (hm : evE E m = mv) (hx : evE E x = kenc k) (hM : MapAt kenc vf (hp W) mv l) :
    Runs P E ⟨d, .lookup t m x true, ty, pos, af, g⟩ W (.tuple #[vf (mgetD beq l k z), .bool (mget beq l k).isSome]) W := by
  show (do pure (.value (← Instr.lookup t (evE E m) (evE E x) true)) : Sem Next).run P W = _
  rw [hm, hx]
  rcases hM with ⟨rfl, rfl⟩ | ⟨mb, es, clock, rfl, hb, h3⟩
  · have := K.find k [] [] rfl W
    simp [Instr.lookup, run_underlying ht, K.check, this, hz W, mget, mgetD]
  · have hb' : W.heap[mb]? = some (.map es clock) := hb
    have h5 : ((getObj mb : Sem Obj)).run P W = .ok (.map es clock) W := by simp [getObj, Sem.run, hb']
    have h6 := K.find k _ _ h3.keys W
    rw [h3.get k] at h6
    simp only [Instr.lookup, Sem.run_bind, run_underlying ht, Result.andThen_ok, h5, Sem.run_pure, K.check, h6, mgetD, mget_idx]
    cases h7 : l.findIdx? (fun p => beq k p.1) with
    | none => simp [hz W]
    | some i =>
      cases h8 : l[i]? with
      | none => simp [h8, hz W]
      | some p => simp [h8]
theorem MapRow.one {mv : Value} {l : List (κ × β)} (h : MapRow kenc vf mv l R) : mv.oneCell' = true := by obtain ⟨m, es, clock, rfl, _⟩ := h; rfl
theorem MapRow.form {mv : Value} {l : List (κ × β)} (h : MapRow kenc vf mv l R) : ∃ m, mv = .map (some m) := by obtain ⟨m, es, clock, rfl, _⟩ := h; exact ⟨m, rfl⟩
theorem MapRow.nd {mv : Value} {l : List (κ × β)} (h : MapRow kenc vf mv l R) : (R.map (·.1)).Nodup := by obtain ⟨m, es, clock, rfl, rfl, _⟩ := h; simp
theorem E_rangeM {Kk : Value → World → Prop} {t kt e : TypeId} {m : Operand} {mv : Value} {l : List (κ × β)} {M : Mem} (ht : P.underlying t = some (.map kt e)) (hST : ST dd F w W μ L) (hm : evE E m = mv) (hM : MapAt kenc vf M mv l) (hW : ∀ b o, M b = some o → W.heap[b]? = some o)
    (hK : ∀ W' v R, ST dd F w W' μ (R ++ L) → Iter kenc vf M v l R → Kk v W') : Eff P E ⟨d, .range t m, ty, pos, af, g⟩ W Kk := by
  rcases hM with ⟨rfl, rfl⟩ | ⟨mb, es, clock, rfl, hb, h3⟩
  · refine .inl ⟨_, _, ?_, hK (W.alloc (.mapIter none 0 #[] 0)) (.pointer (some ⟨W.heap.size, 0, none⟩)) [(W.heap.size, _)] (hST.alloc _) ⟨_, rfl, .inl ⟨rfl, _, _, _, rfl⟩⟩⟩
    show (do pure (.value (← Instr.range t (evE E m))) : Sem Next).run P W = _
    rw [hm]; simp [run_range_nilMap W t kt e ht]
  · refine .inl ⟨_, _, ?_, hK (W.alloc (.mapIter (some mb) clock #[] clock)) (.pointer (some ⟨W.heap.size, 0, none⟩)) [(W.heap.size, _)] (hST.alloc _) ⟨_, rfl, .inr ⟨mb, es, clock, #[], clock, l, hb, h3, rfl, Nat.le_refl _, ?_⟩⟩⟩
    · show (do pure (.value (← Instr.range t (evE E m))) : Sem Next).run P W = _
      rw [hm]; simp [run_range_map W t kt e mb es clock ht (hW _ _ hb)]
    · rw [← h3.pairs]; simp only [leftOf, Array.toList_filter]; rw [List.filter_eq_self.2 (fun a _ => by simp)]
theorem E_nextM {Kk : Value → World → Prop} {M : Mem} (X : List (Nat × Obj)) {Y : List (Nat × Obj)} {x : Operand} (hST : ST dd F w W μ (X ++ (R ++ Y))) (hW : ∀ b o, M b = some o → W.heap[b]? = some o) (h : Iter kenc vf M v left R) (hx : evE E x = v)
    (hend : left = [] → Kk (.tuple #[.bool false]) W) (hstep : ∀ W' R' p left', left.Perm (p :: left') → ST dd F w W' μ (X ++ (R' ++ Y)) → IterAt kenc vf M v left' R' p → Kk (.tuple #[.bool true, kenc p.1, vf p.2]) W') :
    Eff P E ⟨d, .next x false, ty, pos, af, g⟩ W Kk := by
  have hr : ∀ v' W', (Instr.next v false ty).run P W = .ok v' W' → (execOp (evE E) ⟨d, .next x false, ty, pos, af, g⟩).run P W = .ok (.value v') W' := by
    intro v' W' hv
    show (do pure (.value (← Instr.next (evE E x) false ty)) : Sem Next).run P W = _
    rw [hx]; simp [hv]
  obtain ⟨it, rfl, ⟨rfl, a, s, c, rfl⟩ | ⟨m, es, clock, seen, c0, l, h2, h3, rfl, h4, h5⟩⟩ := h
  · have hb := (hST.box it (.mapIter none a s c) (by simp)).1
    refine .inl ⟨.tuple #[.bool false], W, hr _ _ ?_, hend rfl⟩
    simp only [Instr.next, getObj, Sem.run_bind, Sem.run, hb, Result.andThen]
    rfl
  · have hb := (hST.box it (.mapIter (some m) clock seen c0) (by simp)).1
    rcases run_next_at (P := P) W ty it m clock c0 seen es clock hb (hW _ _ h2) h3.lt h4 with ⟨h6, h7⟩ | ⟨e, h6, w1, h7, h8⟩
    · refine .inl ⟨_, W, hr _ _ h7, hend ?_⟩
      have := congrArg List.length h5
      simp [h6] at this
      exact List.length_eq_zero_iff.1 this.symm
    · obtain ⟨A, B, hA, hB⟩ := leftOf_push h3 seen h6
      rw [hA] at h5
      have hl : ∃ LA p LB, left = LA ++ p :: LB ∧ A.map (fun e => (e.key, e.val)) = LA.map (fun p => (kenc p.1, vf p.2)) ∧ (e.key, e.val) = (kenc p.1, vf p.2) ∧ B.map (fun e => (e.key, e.val)) = LB.map (fun p => (kenc p.1, vf p.2)) := by
        rw [List.map_append, List.map_cons] at h5
        obtain ⟨LA, LB', e1, e2, e3⟩ := List.map_eq_append_iff.1 h5.symm
        obtain ⟨p, LB, e4, e5, e6⟩ := List.map_eq_cons_iff.1 e3
        exact ⟨LA, p, LB, by rw [e1, e4], e2.symm, e5.symm, e6.symm⟩
      obtain ⟨LA, p, LB, rfl, e2, e3, e4⟩ := hl
      have he : e ∈ es.toList := by
        have : e ∈ (leftOf es seen).toList := h6
        simp only [leftOf, Array.toList_filter] at this
        exact (List.mem_filter.1 this).1
      simp only [Prod.mk.injEq] at e3
      rw [e3.1, e3.2] at h8
      have hST1 : ST dd F w w1 μ (X ++ ([(it, .mapIter (some m) clock seen c0)] ++ Y)) := by
        rcases h7 with rfl | rfl
        · exact hST
        · exact hST.drew
      refine .inl ⟨_, _, hr _ _ h8, hstep _ [(it, _)] p (LA ++ LB) List.perm_middle (ST.setBlock (A := X) hST1 _) ⟨it, m, es, clock, seen, l, e, rfl, h2, h3, rfl, he, e3.1, e3.2, ?_⟩⟩
      rw [hB, List.map_append, e2, e4, List.map_append]
theorem R_entryM {M : Mem} {x : Operand} {p : κ × β} (hH : ∀ q, q ∈ R → W.heap[q.1]? = some q.2) (hm : ∀ b o, M b = some o → W.heap[b]? = some o) (h : IterAt kenc vf M v left R p) (hx : evE E x = v) :
    Runs P E ⟨d, .entry x, ty, pos, af, g⟩ W (.tuple #[kenc p.1, vf p.2]) W := R_entry (μ := M) hH hm h hx
end
def clearT {α : Type} (l : List α) (i : Nat) (z : α) : List α := l.take i ++ List.replicate (l.length - i) z
theorem clearT_length {α : Type} (l : List α) (i : Nat) (z : α) (h : i ≤ l.length) : (clearT l i z).length = l.length := by simp [clearT]; omega
theorem clearT_take {α : Type} (l : List α) (i : Nat) (z : α) (h : i ≤ l.length) : (clearT l i z).take i = l.take i := by
  simp only [clearT]
  rw [List.take_append, List.take_of_length_le (by simp; omega)]
  simp; omega
end Go.Proofs.YtmlncblocfcmiaaGreat
namespace Go.Proofs.YtmlncblocfcmiaaGreat
open Go.RowKit
theorem checkKey_int {P : Program} {kt : TypeId} {k : IntKind} (ht : P.underlying kt = some (.int k)) (n : Nat) (b : Bool) (k' : IntKind) (x : Int) (W : World) : (Instr.checkKey b (n + 1) kt (.int k' x)).run P W = .ok () W := by
  simp [Instr.checkKey, run_underlying ht]
theorem checkLoop {P : Program} {cs : Array Value} {b : Bool} {n : Nat} {W : World} : ∀ (l : List Field),
    (∀ f ∈ l, f.name ≠ "_" → ∃ v, (part f.type cs f.offset).run P W = .ok v W ∧ (Instr.checkKey b n f.type v).run P W = .ok () W) →
    ((forIn l PUnit.unit fun f (_ : PUnit) => do
      if f.name ≠ "_" then Instr.checkKey b n f.type (← part f.type cs f.offset)
      pure (ForInStep.yield PUnit.unit)) : Sem PUnit).run P W = .ok PUnit.unit W
  | [], _ => by simp
  | f :: l, h => by
    have ih := checkLoop l (fun f hf => h f (List.mem_cons_of_mem _ hf))
    simp only [List.forIn_cons, Sem.run_bind]
    by_cases hn : f.name ≠ "_"
    · obtain ⟨v, h1, h2⟩ := h f (by simp) hn
      simp only [if_pos hn, Sem.run_bind, h1, Result.andThen_ok, h2, Sem.run_pure]
      exact ih
    · simp only [if_neg hn, Sem.run_bind, Sem.run_pure, Result.andThen_ok]
      exact ih
theorem checkKey_struct {P : Program} {kt : TypeId} {fs : Array Field} {l : List Field} {cs : Array Value} {b : Bool} {n : Nat} {W : World} (ht : P.underlying kt = some (.struct fs)) (hl : fs.toList = l)
    (h : ∀ f ∈ l, f.name ≠ "_" → ∃ v, (part f.type cs f.offset).run P W = .ok v W ∧ (Instr.checkKey b n f.type v).run P W = .ok () W) : (Instr.checkKey b (n + 1) kt (.agg cs)).run P W = .ok () W := by
  obtain ⟨fs⟩ := fs
  subst hl
  simp only [Instr.checkKey, Sem.run_bind, run_underlying ht, Result.andThen_ok, List.forIn_toArray]
  have := checkLoop (P := P) (cs := cs) (b := b) (n := n) (W := W) fs h
  simp only [Sem.run_bind] at this
  first | rw [this]; rfl | simpa using this
end Go.Proofs.YtmlncblocfcmiaaGreat
namespace Go.Proofs.YtmlncblocfcmiaaGreat
open Go.RowKit
variable {dd : Bool}
def chk (b : Bool) : Option Unit := if b = true then some () else none
theorem chk_true {b : Bool} {u : Unit} (h : chk b = some u) : b = true := by
  unfold chk at h; split at h
  · assumption
  · cases h
theorem chk_1 {a c : Int} {u : Unit} (h : chk (decide (0 ≤ a) && decide (a ≤ c)) = some u) : 0 ≤ a := by have := chk_true h; simp at this; exact this.1
theorem chk_2 {a c : Int} {u : Unit} (h : chk (decide (0 ≤ a) && decide (a ≤ c)) = some u) : a ≤ c := by have := chk_true h; simp at this; exact this.2
def TailV (k : Nat) (v : Value) (i : Nat) (u : Value) : Prop := ∃ A n c A' c', v = .slice A n c ∧ u = .slice A' (n - i) c' ∧ i ≤ n ∧ (i < n → ∃ b o, A = some ⟨b, o, none⟩ ∧ A' = some ⟨b, o + i * k, none⟩)
section
variable {P : Program} {E : Nat → Value} {W : World} {d : Option Nat} {ty : TypeId} {pos : String} {af : Array Edge} {g : Option (Nat × Bool)}
  {F : Nat → Prop} {w : World} {μ : Mem} {L : List (Nat × Obj)} {α : Type} {e' : TypeId} {enc : α → List Value} {k : Nat} {v : Value} {l : List α} {R : List (Nat × Obj)}
theorem R_sliceTail {t e : TypeId} {x il : Operand} {ik : IntKind} {i : Int} (ht : P.underlying t = some (.slice e)) (he : ∀ w, (sizeOf e).run P w = .ok k w) (hx : evE E x = v) (hi : evE E il = .int ik i) (h : Row e' enc k v l R) (h0 : 0 ≤ i) (hl : i ≤ l.length) :
    ∃ u, TailV k v i.toNat u ∧ ∀ W, Runs P E ⟨d, .slice t x (some il) none none, ty, pos, af, g⟩ W u W := by
  rcases h with ⟨rfl, rfl, rfl⟩ | ⟨g', cap, cur, rfl, rfl, h1, h2, h3, h4⟩
  · have : i = 0 := by simp at hl; omega
    subst this
    refine ⟨.slice none 0 0, ⟨none, 0, 0, none, 0, rfl, rfl, Nat.le_refl _, fun h => absurd h (by simp)⟩, fun W => ?_⟩
    show (do pure (.value (← Instr.sliceAt t (evE E x) (some (evE E il)) none none)) : Sem Next).run P W = _
    rw [hx, hi]
    simp [Instr.sliceAt, Instr.slice, Instr.sliceBounds, Instr.sliceBound, asIntOf, run_underlying ht, he W]
  · refine ⟨.slice (some (if cap = i.toNat then ⟨g', 0, none⟩ else (Addr.add ⟨g', 0, none⟩ (i.toNat * k)))) (l.length - i.toNat) (cap - i.toNat), ⟨_, _, _, _, _, rfl, rfl, by omega, fun hlt => ⟨g', 0, rfl, ?_⟩⟩, fun W => ?_⟩
    · rw [if_neg (by omega)]; simp [Addr.add_lit]
    · show (do pure (.value (← Instr.sliceAt t (evE E x) (some (evE E il)) none none)) : Sem Next).run P W = _
      rw [hx, hi]
      have hb : 0 ≤ i ∧ i ≤ (l.length : Int) := ⟨h0, hl⟩
      simp [Instr.sliceAt, Instr.slice, Instr.sliceBounds, Instr.sliceBound, asIntOf, run_underlying ht, he W, hb]
      split <;> rfl
theorem tail_get {i j : Nat} {x0 : α} (h : (l.drop i)[j]? = some x0) : l[i + j]? = some x0 := by rwa [List.getElem?_drop] at h
theorem R_lenTail {t e : TypeId} {x : Operand} {u : Value} {i : Nat} (ht : P.underlying t = some (.slice e)) (hx : evE E x = u) (hu : TailV k v i u) (h : Row e' enc k v l R) : Runs P E ⟨d, .call ⟨.builtin .len, #[x], #[t]⟩, ty, pos, af, g⟩ W (.int .i64 ((l.length - i : Nat) : Int)) W := by
  obtain ⟨A, n, c, A', c', h1, h2, h3, _⟩ := hu
  subst h2
  have : n = l.length := by
    rcases h with ⟨rfl, rfl, rfl⟩ | ⟨g', cap, cur, rfl, rfl, _⟩
    · cases h1; rfl
    · cases h1; rfl
  subst this
  exact R_lenSl ht hx
theorem R_indexTail {t e : TypeId} {x ix : Operand} {ik : IntKind} {i : Int} {x0 : α} {u : Value} {o : Nat}
    (ht : P.underlying t = some (.slice e)) (he : ∀ w, (sizeOf e).run P w = .ok k w) (hx : evE E x = u) (hi : evE E ix = .int ik i) (h : Row e' enc k v l R) (hu : TailV k v o u) (h0 : 0 ≤ i) (hl : (l.drop o)[i.toNat]? = some x0) :
    ∃ p, IxR R k p (o + i.toNat) ∧ ∀ W, Runs P E ⟨d, .indexAddr t x ix, ty, pos, af, g⟩ W p W := by
  have hl' := tail_get hl
  have hlt : o + i.toNat < l.length := (List.getElem?_eq_some_iff.1 hl').1
  rcases h with ⟨rfl, rfl, rfl⟩ | ⟨g', cap, cur, rfl, rfl, h1, h2, h3, h4⟩
  · simp at hlt
  obtain ⟨A, n, c, A', c', e1, rfl, h7, h8⟩ := hu
  cases e1
  obtain ⟨b, oo, e2, rfl⟩ := h8 (by omega)
  cases e2
  refine ⟨.pointer (some ⟨g', (o + i.toNat) * k, none⟩), ⟨_, _, rfl, rfl⟩, fun W => ?_⟩
  show (do pure (.value (← Instr.indexAt t (evE E x) (evE E ix))) : Sem Next).run P W = _
  rw [hx, hi]
  have hb : 0 ≤ i ∧ i < ((l.length - o : Nat) : Int) := ⟨h0, by omega⟩
  simp [Instr.indexAt, asIntOf, run_underlying ht, he W, hb, Addr.add_lit, Nat.add_mul]
theorem zeroCells_list (ys : List Value) (m : Nat) : (Builtin.zeroCells ys.toArray m).toList = (List.replicate m ys).flatten := by
  unfold Builtin.zeroCells
  simp only [Array.toList_map, Array.toList_range, List.size_toArray]
  rcases Nat.eq_zero_or_pos ys.length with h0 | h0
  · have : ys = [] := List.length_eq_zero_iff.1 h0
    subst this
    simp
  apply List.ext_getElem?
  intro q
  by_cases hq : q < m * ys.length
  · have h1 : q / ys.length < m := (Nat.div_lt_iff_lt_mul h0).2 hq
    have h2 : q % ys.length < ys.length := Nat.mod_lt _ h0
    have := flat_get (enc := fun _ : Unit => ys) (fun _ => rfl) (List.replicate m ()) (q / ys.length) () (by simp [h1]) (q % ys.length) ys[q % ys.length] (by simp [h2])
    rw [Nat.div_add_mod' q ys.length] at this
    rw [List.map_replicate] at this
    rw [this]
    simp [hq, h2]
  · rw [List.getElem?_eq_none (by simp; omega), List.getElem?_eq_none (by simp; omega)]
theorem E_clearTail {K : Value → World → Prop} (z : α) (X : List (Nat × Obj)) {Y : List (Nat × Obj)} {t e : TypeId} {x : Operand} {u zv : Value} {i : Nat} (hST : ST dd F w W μ (X ++ (R ++ Y))) (h : Row e' enc k v l R) (hk : ∀ x, (enc x).length = k) (h1 : ∀ x, ∀ u ∈ enc x, u.oneCell' = true)
    (ht : P.underlying t = some (.slice e)) (hz : ∀ w, (zeroValue e).run P w = .ok zv w) (hu : TailV k v i u) (hc : zv.cells = (enc z).toArray) (hx : evE E x = u)
    (hK : ∀ W' R', ST dd F w W' μ (X ++ (R' ++ Y)) → Row e' enc k v (clearT l i z) R' → K (.tuple #[]) W') : Eff P E ⟨d, .call ⟨.builtin .clear, #[x], #[t]⟩, ty, pos, af, g⟩ W K := by
  have hrun : ∀ (W' : World), (Builtin.clear_ #[t] ty #[u]).run P W = .ok (.tuple #[]) W' → (execOp (evE E) ⟨d, .call ⟨.builtin .clear, #[x], #[t]⟩, ty, pos, af, g⟩).run P W = .ok (.value (.tuple #[])) W' := by
    intro W' hV
    show (do let d ← resolve (evE E) ⟨.builtin .clear, #[x], #[t]⟩ ty; invoke d.target d.args : Sem Next).run P W = _
    simp [resolve, invoke, builtin, hx, hV]
  obtain ⟨A, n, c, A', c', e1, rfl, h7, h8⟩ := hu
  rcases h with ⟨rfl, rfl, rfl⟩ | ⟨g', cap, cur, rfl, rfl, q1, q2, q3, q4⟩
  · cases e1
    refine .inl ⟨_, W, hrun W ?_, hK W [] hST (by simpa [clearT] using Row.nil e' enc k)⟩
    simp only [Builtin.clear_, Nat.zero_sub]
    cases A' <;> simp [run_underlying ht]
  · cases e1
    by_cases hi : i < l.length
    · obtain ⟨b, o, e2, rfl⟩ := h8 hi
      cases e2
      have hzr : ∀ m, (Builtin.zeroCells zv.cells m).toList = (List.replicate m (enc z)).flatten := by
        intro m
        rw [hc]; exact zeroCells_list _ _
      have hb := (hST.box g' (.cells cur e' (0, 0)) (by simp)).1
      have hle : i * k + (l.length - i) * k = l.length * k := by rw [← Nat.add_mul]; congr 1; omega
      have hlen : l.length * k ≤ c * k := Nat.mul_le_mul_right _ q1
      have hzl : ((List.replicate (l.length - i) (enc z)).flatten).length = (l.length - i) * k := by simp [hk]
      have hone : ∀ v ∈ (List.replicate (l.length - i) (enc z)).flatten, v.oneCell' = true := by
        intro v hv
        obtain ⟨ys, hys, hv⟩ := List.mem_flatten.1 hv
        rw [(List.mem_replicate.1 hys).2] at hv
        exact h1 z v hv
      have hs := run_storeCells_at (P := P) g' (i * k) e' ((List.replicate (l.length - i) (enc z)).flatten) 0 cur W hb (by rw [hzl, q3]; omega) hone
      rw [Nat.add_zero, hzl, hle] at hs
      refine .inl ⟨_, W.setRow g' (cur.toList.take (i * k) ++ (List.replicate (l.length - i) (enc z)).flatten ++ cur.toList.drop (l.length * k)).toArray, hrun _ ?_, hK _ [(g', .cells (cur.toList.take (i * k) ++ (List.replicate (l.length - i) (enc z)).flatten ++ cur.toList.drop (l.length * k)).toArray e' (0, 0))] (hST.store _) (.inr ⟨g', c, _, by rw [clearT_length _ _ _ h7], rfl, by rw [clearT_length _ _ _ h7]; exact q1, q2, ?_, ?_⟩)⟩
      · have hn : l.length - i = (l.length - i - 1) + 1 := by omega
        simp only [Builtin.clear_]
        rw [hn]
        simp only [run_underlying ht, Sem.run_bind, Result.andThen_ok, List.getElem?_toArray, List.getElem?_cons_zero, hz, Nat.zero_add]
        rw [← hn, hzr, hs]
        simp
      · have e0 : cur.toList.length = c * k := by simpa using q3
        rw [List.size_toArray, List.length_append, List.length_append, List.length_take, List.length_drop, hzl, e0, Nat.min_eq_left (by omega)]
        omega
      · rw [clearT_length _ _ _ h7, clearT, List.map_append, List.flatten_append, flat_take hk l i h7, ← q4, List.take_take, Nat.min_eq_left (by omega), List.map_replicate]
        have e0 : cur.toList.length = c * k := by simpa using q3
        have e3 : (cur.toList.take (i * k) ++ (List.replicate (l.length - i) (enc z)).flatten).length = l.length * k := by rw [List.length_append, List.length_take, hzl, e0, Nat.min_eq_left (by omega)]; omega
        show List.take (l.length * k) (cur.toList.take (i * k) ++ (List.replicate (l.length - i) (enc z)).flatten ++ cur.toList.drop (l.length * k)) = _
        rw [List.take_append, List.take_of_length_le (by rw [e3]; exact Nat.le_refl _), e3, Nat.sub_self]
        simp
    · have hi' : i = l.length := by omega
      subst hi'
      refine .inl ⟨_, W, hrun W ?_, hK W _ hST ?_⟩
      · simp only [Builtin.clear_, Nat.sub_self]
        cases A' <;> simp [run_underlying ht]
      · simp only [clearT, List.take_length, Nat.sub_self, List.replicate_zero, List.append_nil]
        exact .inr ⟨g', c, cur, rfl, rfl, q1, q2, q3, q4⟩
end
end Go.Proofs.YtmlncblocfcmiaaGreat
namespace Go.Proofs.YtmlncblocfcmiaaGreat
open Go.RowKit
variable {dd : Bool}
section
variable {P : Program} {E : Nat → Value} {W : World} {d : Option Nat} {ty : TypeId} {pos : String} {af : Array Edge} {g : Option (Nat × Bool)}
  {F : Nat → Prop} {w : World} {μ : Mem} {L : List (Nat × Obj)}
theorem E_ext {K : Value → World → Prop} {f : FuncId} {fv : Operand} {ax : Array Operand} {ats : Array TypeId} {args : List Value} {v : Value}
    (hf : evE E fv = .func (.func f) #[] #[]) (ha : ax.map (evE E) ++ (#[] : Array Value) = args.toArray) (hr : (callFunc f args.toArray).run P W = .ok (.value v) W) (h : K v W) : Eff P E ⟨d, .call ⟨.value fv, ax, ats⟩, ty, pos, af, g⟩ W K := by
  have ha' : ax.map (evE E) = args.toArray := by simpa using ha
  refine .inl ⟨v, W, ?_, h⟩
  show (do let d ← resolve (evE E) ⟨.value fv, ax, ats⟩ ty; invoke d.target d.args : Sem Next).run P W = _
  simp only [resolve, hf, Deferred.ofValue, Sem.run_bind, Sem.run_pure, Result.andThen_ok, invoke]
  rw [ha']
  simpa using hr
def xIndexByte (s : ByteArray) (c : Int) : Int := Lib.indexByte s.data.toList c.toNat.toUInt8
def xCompareS (a b : ByteArray) : Int := Lib.compareBytes a.data.toList b.data.toList
def u8s (l : List Int) : List UInt8 := l.map fun x => x.toNat.toUInt8
def xCompareB (a b : List Int) : Int := Lib.compareBytes (u8s a) (u8s b)
theorem run_indexByteS {f : FuncId} {fn : Func} (hf : P.funcs[f]? = some fn) (hname : (fn.name == "runtime.NumGoroutine") = false) (hb : fn.body.isNone = true) (hn : Extern.findNext fn = none) (he : Extern.find fn = some Extern.BytealgIndexByte.indexByte) (s : ByteArray) (c : Int) (w : World) :
    (callFunc f [Value.string s, .int .u8 c].toArray).run P w = .ok (.value (.int .i64 (xIndexByte s c))) w := by
  rw [run_callFunc_extern hf hname hb hn he]
  rw [Lib.run_indexByteString]
  rfl
theorem run_cmpS {f : FuncId} {fn : Func} (hf : P.funcs[f]? = some fn) (hname : (fn.name == "runtime.NumGoroutine") = false) (hb : fn.body.isNone = true) (hn : Extern.findNext fn = none) (he : Extern.find fn = some Extern.BytealgCompare.compare) (a b : ByteArray) (w : World) :
    (callFunc f [Value.string a, .string b].toArray).run P w = .ok (.value (.int .i64 (xCompareS a b))) w := by
  rw [run_callFunc_extern hf hname hb hn he]
  rw [Lib.run_compareString]
  rfl
theorem run_bytesOfSl {v : Value} {l : List Int} (h : Sl (Pl (encIk .u8)) 1 (hp W) v l) : (Extern.Bytes.bytesOf v).run P W = .ok ⟨(u8s l).toArray⟩ W := by
  obtain ⟨A, c, rfl, h2, h3, h4⟩ := h
  rcases Nat.eq_zero_or_pos l.length with h0 | h0
  · have : l = [] := List.length_eq_zero_iff.1 h0
    subst this
    cases A <;> simp [Extern.Bytes.bytesOf, Extern.Bytes.loadBytes, u8s] <;> rfl
  · obtain ⟨b, off, cs, T, fr, rfl, h6, h7⟩ := h4 h0
    have := Lib.run_loadBytesX (P := P) W l ⟨b, off, none⟩ .empty (fun j x hj => by
      obtain ⟨ys, _, hys, h12⟩ := h7 j x hj
      cases hys
      rw [Addr.add_lit, cell_of_row W b (off + j) cs T fr h6]
      have := h12 0 (.int .u8 x) rfl
      simpa using this)
    simp only [Extern.Bytes.bytesOf]
    rw [this]
    congr 1
    apply ByteArray.ext
    show (#[] : Array UInt8) ++ _ = _
    simp [Lib.bytesOf, u8s]
theorem run_cmpB {f : FuncId} {fn : Func} (hf : P.funcs[f]? = some fn) (hname : (fn.name == "runtime.NumGoroutine") = false) (hb : fn.body.isNone = true) (hn : Extern.findNext fn = none) (he : Extern.find fn = some Extern.BytealgCompare.compare) {va vb : Value} {a b : List Int}
    (h1 : Sl (Pl (encIk .u8)) 1 (hp W) va a) (h2 : Sl (Pl (encIk .u8)) 1 (hp W) vb b) :
    (callFunc f [va, vb].toArray).run P W = .ok (.value (.int .i64 (xCompareB a b))) W := by
  rw [run_callFunc_extern hf hname hb hn he]
  have : (Extern.BytealgCompare.compare [va, vb].toArray).run P W = .ok (.int .i64 (xCompareB a b)) W := by
    change Sem.run P (do pure (goInt (Extern.BytealgCompare.cmp (← Extern.Bytes.bytesOf va) (← Extern.Bytes.bytesOf vb)))) W = _
    simp only [Sem.run_bind, run_bytesOfSl h1, run_bytesOfSl h2, Sem.run_pure, Result.andThen]
    rw [Lib.cmp_eq]
    rfl
  rw [this]
  rfl
theorem R_makeFuncC {fn : Fn} {caps : Array Operand} {cs : List Value} {v : Value} (hc : caps.map (evE E) ++ (#[] : Array Value) = cs.toArray) (hv : .func fn #[] cs.toArray = v) : Runs P E ⟨d, .makeFunc fn #[] caps, ty, pos, af, g⟩ W v W := by
  have : caps.map (evE E) = cs.toArray := by simpa using hc
  exact R_makeFunc (by rw [this]; simpa using hv)
theorem GivesM.mono {f : FuncId} {args : List Value} {L0 : List (Nat × Obj)} {K K' : Value → List (Nat × Obj) → World → Prop} (h : GivesM dd P f args w L0 K) (hk : ∀ v L1 W', K v L1 W' → K' v L1 W') : GivesM dd P f args w L0 K' :=
  Calls.mono h (fun _ _ ⟨v, L1, h1, h2, h3⟩ => ⟨v, L1, h1, h2, hk _ _ _ h3⟩)
end
section
variable {α : Type}
def lessO (cf : α × α → Option Int) (x y : α) : Bool := match cf (x, y) with
  | some c => decide (c < 0)
  | none => false
structure SortOk (cf : α × α → Option Int) (l : List α) : Prop where
  is : ∀ x ∈ l, ∀ y ∈ l, ∃ c, cf (x, y) = some c
  irrefl : ∀ x ∈ l, lessO cf x x = false
  trans : ∀ x ∈ l, ∀ y ∈ l, ∀ z ∈ l, lessO cf x y = true → lessO cf y z = true → lessO cf x z = true
  total : ∀ x ∈ l, ∀ y ∈ l, lessO cf x y = false → lessO cf y x = false → x = y
  short : l.length < 4611686018427387904
def sorted (cf : α × α → Option Int) (l : List α) : List α := l.mergeSort fun x y => !lessO cf y x
open Classical in
noncomputable def sortF (cf : α × α → Option Int) (l : List α) : Option (List α) := if SortOk cf l then some (sorted cf l) else none
theorem sortF_some {cf : α × α → Option Int} {l r : List α} (h : sortF cf l = some r) : SortOk cf l ∧ r = sorted cf l := by
  unfold sortF at h
  split at h
  · rename_i hs; cases h; exact ⟨hs, rfl⟩
  · cases h
theorem sortF_of {cf : α × α → Option Int} {l : List α} (h : SortOk cf l) : sortF cf l = some (sorted cf l) := by
  unfold sortF; rw [if_pos h]
def sortedS (l : List ByteArray) : List ByteArray := l.mergeSort fun x y => !ltS y x
def sortS (l : List ByteArray) : Option (List ByteArray) := if l.length < 4611686018427387904 then some (sortedS l) else none
end
end Go.Proofs.YtmlncblocfcmiaaGreat
namespace Go.Proofs.YtmlncblocfcmiaaGreat
open Go.RowKit
variable {dd : Bool}
def Vals {κ γ : Type} (Q : Value → γ → List (Nat × Obj) → Prop) : List (κ × Value) → List (κ × γ) → List (Nat × Obj) → Prop
  | [], [], R => R = []
  | p :: lv, q :: l, R => p.1 = q.1 ∧ ∃ R1 R2, R = R1 ++ R2 ∧ Q p.2 q.2 R1 ∧ Vals Q lv l R2
  | _, _, _ => False
def DeepV {κ γ : Type} (kenc : κ → Value) (Q : Value → γ → List (Nat × Obj) → Prop) (v : Value) (lv : List (κ × Value)) (l : List (κ × γ)) (R : List (Nat × Obj)) : Prop :=
  ∃ Rm Rv, R = Rm ++ Rv ∧ MapRow kenc (fun x => x) v lv Rm ∧ Vals Q lv l Rv
section
variable {κ γ : Type} {Q : Value → γ → List (Nat × Obj) → Prop} {beq : κ → κ → Bool} {kenc : κ → Value}
theorem Vals.keys : ∀ {lv : List (κ × Value)} {l : List (κ × γ)} {R : List (Nat × Obj)}, Vals Q lv l R → lv.map (·.1) = l.map (·.1)
  | [], [], _, _ => rfl
  | [], _ :: _, _, h => h.elim
  | _ :: _, [], _, h => h.elim
  | p :: lv, q :: l, R, h => by
    obtain ⟨h1, R1, R2, _, _, h4⟩ := h
    simp [h1, Vals.keys h4]
theorem Vals.find {lv : List (κ × Value)} {l : List (κ × γ)} {R : List (Nat × Obj)} (h : Vals Q lv l R) (k : κ) : lv.findIdx? (fun p => beq k p.1) = l.findIdx? (fun p => beq k p.1) := by
  have h1 : (lv.map (·.1)).findIdx? (fun x => beq k x) = (l.map (·.1)).findIdx? (fun x => beq k x) := by rw [h.keys]
  rw [List.findIdx?_map, List.findIdx?_map] at h1
  exact h1
theorem Vals.get : ∀ {lv : List (κ × Value)} {l : List (κ × γ)} {R : List (Nat × Obj)}, Vals Q lv l R → ∀ (i : Nat) (k : κ) (x : γ), l[i]? = some (k, x) →
    ∃ v A R1 B, lv[i]? = some (k, v) ∧ R = A ++ (R1 ++ B) ∧ Q v x R1 ∧ ∀ k2 v2 x2 R2, Q v2 x2 R2 → Vals Q (lv.set i (k2, v2)) (l.set i (k2, x2)) (A ++ (R2 ++ B))
  | [], [], _, _, i, k, x, hi => by simp at hi
  | [], _ :: _, _, h, _, _, _, _ => h.elim
  | _ :: _, [], _, h, _, _, _, _ => h.elim
  | p :: lv, q :: l, R, h, 0, k, x, hi => by
    obtain ⟨h1, R1, R2, rfl, h3, h4⟩ := h
    simp at hi
    subst hi
    refine ⟨p.2, [], R1, R2, by simp only [List.getElem?_cons_zero]; exact congrArg some (Prod.ext h1 rfl), rfl, h3, fun k2 v2 x2 R2' hq => ⟨rfl, R2', R2, rfl, hq, h4⟩⟩
  | p :: lv, q :: l, R, h, i + 1, k, x, hi => by
    obtain ⟨h1, R1, R2, rfl, h3, h4⟩ := h
    simp at hi
    obtain ⟨v, A, R1', B, g1, rfl, g3, g4⟩ := Vals.get h4 i k x hi
    exact ⟨v, R1 ++ A, R1', B, by simpa using g1, by simp, g3, fun k2 v2 x2 R2' hq => ⟨h1, R1, A ++ (R2' ++ B), by simp, h3, g4 k2 v2 x2 R2' hq⟩⟩
theorem Vals.push : ∀ {lv : List (κ × Value)} {l : List (κ × γ)} {R : List (Nat × Obj)}, Vals Q lv l R → ∀ (k : κ) {v : Value} {x : γ} {R1 : List (Nat × Obj)}, Q v x R1 → Vals Q (lv ++ [(k, v)]) (l ++ [(k, x)]) (R ++ R1)
  | [], [], _, h, k, v, x, R1, hq => by
    have h' : _ = [] := h
    subst h'
    exact ⟨rfl, R1, [], by simp, hq, rfl⟩
  | [], _ :: _, _, h, _, _, _, _, _ => h.elim
  | _ :: _, [], _, h, _, _, _, _, _ => h.elim
  | p :: lv, q :: l, R, h, k, v, x, R1, hq => by
    obtain ⟨h1, Ra, Rb, rfl, h3, h4⟩ := h
    exact ⟨h1, Ra, Rb ++ R1, by simp, h3, Vals.push h4 k hq⟩
theorem DeepV.found {mv : Value} {lv : List (κ × Value)} {l : List (κ × γ)} {R : List (Nat × Obj)} (hk : ∀ {x y : κ}, beq x y = true → x = y) (h : DeepV kenc Q mv lv l R) {k : κ} {x : γ} (hx : mget beq l k = some x) :
    ∃ v A R1 B, mget beq lv k = some v ∧ R = A ++ (R1 ++ B) ∧ Q v x R1 ∧ (∀ x2 R2, Q v x2 R2 → DeepV kenc Q mv lv (mput beq l k x2) (A ++ (R2 ++ B))) := by
  obtain ⟨Rm, Rv, rfl, h2, h3⟩ := h
  rw [mget_idx] at hx
  cases hi : l.findIdx? (fun p => beq k p.1) with
  | none => rw [hi] at hx; cases hx
  | some i =>
    rw [hi] at hx
    obtain ⟨p, hp, hb⟩ := findIdx_lt hi
    simp only [Option.bind_some, hp, Option.map_some, Option.some.injEq] at hx
    subst hx
    have hkk := hk hb
    obtain ⟨v, A, R1, B, g1, rfl, g3, g4⟩ := h3.get i p.1 p.2 hp
    have hi2 : lv.findIdx? (fun p => beq k p.1) = some i := by rw [h3.find k, hi]
    refine ⟨v, Rm ++ A, R1, B, by rw [mget_idx, hi2]; simp [g1], by simp, g3, fun x2 R2 hq => ⟨Rm, A ++ (R2 ++ B), by simp, h2, ?_⟩⟩
    have hset := g4 k v x2 R2 hq
    have e : lv.set i (k, v) = lv := by
      apply List.ext_getElem?
      intro j
      rw [List.getElem?_set]
      split
      · rename_i hij
        subst hij
        rw [g1, hkk]
        simp [(List.getElem?_eq_some_iff.1 g1).1]
      · rfl
    rw [e] at hset
    rw [mput, hi]
    exact hset
theorem DeepV.miss {mv : Value} {lv : List (κ × Value)} {l : List (κ × γ)} {R : List (Nat × Obj)} (h : DeepV kenc Q mv lv l R) {k : κ} (hx : mget beq l k = none) : mget beq lv k = none := by
  obtain ⟨Rm, Rv, rfl, h2, h3⟩ := h
  rw [mget_idx] at hx ⊢
  rw [h3.find k]
  cases hi : l.findIdx? (fun p => beq k p.1) with
  | none => rfl
  | some i =>
    rw [hi] at hx
    obtain ⟨p, hp, hb⟩ := findIdx_lt hi
    simp [hp] at hx
def valAt (beq : κ → κ → Bool) (lv : List (κ × Value)) (k : κ) (z : Value) : Value := (mget beq lv k).getD z
variable {P : Program} {W : World} {kt : TypeId} {E : Nat → Value} {d : Option Nat} {ty : TypeId} {pos : String} {af : Array Edge} {g : Option (Nat × Bool)} {F : Nat → Prop} {w : World} {μ : Mem} {L : List (Nat × Obj)}
theorem R_lookupDeep {t e : TypeId} {m x : Operand} {mv z : Value} {lv : List (κ × Value)} {l : List (κ × γ)} {R : List (Nat × Obj)} {k : κ} (K : KeyLaw P kt kenc beq) (ht : P.underlying t = some (.map kt e)) (hz : ∀ w, (zeroValue e).run P w = .ok z w)
    (hm : evE E m = mv) (hx : evE E x = kenc k) (hM : DeepV kenc Q mv lv l R) (hR : ∀ b o, (b, o) ∈ R → W.heap[b]? = some o) : Runs P E ⟨d, .lookup t m x false, ty, pos, af, g⟩ W (valAt beq lv k z) W := by
  obtain ⟨Rm, Rv, rfl, h2, h3⟩ := hM
  have h4 := R_lookup (d := d) (ty := ty) (pos := pos) (af := af) (g := g) K ht hz hm hx (h2.at (μ := hp W) (fun b o h => hR b o (List.mem_append_left _ h)))
  simpa [valAt] using h4
variable {κ2 β : Type} {kenc2 : κ2 → Value} {vf : β → Value} {beq2 : κ2 → κ2 → Bool} {kt2 : TypeId}
theorem DeepV.mapAt {mv : Value} {lv : List (κ × Value)} {l : List (κ × List (κ2 × β))} {R : List (Nat × Obj)} (hk : ∀ {x y : κ}, beq x y = true → x = y) (h : DeepV kenc (MapRow kenc2 vf) mv lv l R) (k : κ) {μ : Mem} (hR : ∀ b o, (b, o) ∈ R → μ b = some o) :
    MapAt kenc2 vf μ (valAt beq lv k (.map none)) ((mget beq l k).getD []) := by
  cases hx : mget beq l k with
  | none => rw [valAt, h.miss hx]; exact .inl ⟨rfl, rfl⟩
  | some x =>
    obtain ⟨v, A, R1, B, g1, rfl, g3, _⟩ := h.found hk hx
    rw [valAt, g1]
    exact g3.at (fun b o hb => hR b o (by simp [hb]))
theorem DeepV.isNil {mv : Value} {lv : List (κ × Value)} {l : List (κ × List (κ2 × β))} {R : List (Nat × Obj)} (hk : ∀ {x y : κ}, beq x y = true → x = y) (h : DeepV kenc (MapRow kenc2 vf) mv lv l R) (k : κ) :
    ∃ r, valAt beq lv k (.map none) = .map r ∧ r.isNone = (mget beq l k).isNone := by
  cases hx : mget beq l k with
  | none => rw [valAt, h.miss hx]; exact ⟨none, rfl, rfl⟩
  | some x =>
    obtain ⟨v, A, R1, B, g1, rfl, g3, _⟩ := h.found hk hx
    obtain ⟨m, es, clock, rfl, _⟩ := g3
    rw [valAt, g1]
    exact ⟨_, rfl, rfl⟩
def mupd {κ κ2 β : Type} (beq : κ → κ → Bool) (beq2 : κ2 → κ2 → Bool) (l : List (κ × List (κ2 × β))) (k : κ) (k2 : κ2) (x : β) : Option (List (κ × List (κ2 × β))) := (mget beq l k).map fun l2 => mput beq l k (mput beq2 l2 k2 x)
def mnew {κ γ : Type} (beq : κ → κ → Bool) (l : List (κ × γ)) (k : κ) (x : γ) : Option (List (κ × γ)) := if (mget beq l k).isNone then some (mput beq l k x) else none
theorem E_updDeep {Kk : Value → World → Prop} (X : List (Nat × Obj)) {Y R : List (Nat × Obj)} {t e : TypeId} {m x y : Operand} {mv : Value} {lv : List (κ × Value)} {l l' : List (κ × List (κ2 × β))} {k : κ} {k2 : κ2} {v : β} (hk : ∀ {x y : κ}, beq x y = true → x = y) (K : KeyLaw P kt2 kenc2 beq2) (ht : P.underlying t = some (.map kt2 e))
    (hST : ST dd F w W μ (X ++ (R ++ Y))) (h : DeepV kenc (MapRow kenc2 vf) mv lv l R) (hm : evE E m = valAt beq lv k (.map none)) (hx : evE E x = kenc2 k2) (hy : evE E y = vf v) (hl : mupd beq beq2 l k k2 v = some l')
    (hK : ∀ W' R', ST dd F w W' μ (X ++ (R' ++ Y)) → DeepV kenc (MapRow kenc2 vf) mv lv l' R' → Kk undef W') : Eff P E ⟨d, .mapUpdate t m x y, ty, pos, af, g⟩ W Kk := by
  unfold mupd at hl
  cases hg : mget beq l k with
  | none => rw [hg] at hl; cases hl
  | some l2 =>
    rw [hg] at hl
    cases hl
    obtain ⟨u, A, R1, B, g1, rfl, g3, g4⟩ := h.found hk hg
    have hm' : evE E m = u := by rw [hm, valAt, g1]; rfl
    have hST' : ST dd F w W μ ((X ++ A) ++ (R1 ++ (B ++ Y))) := by simpa using hST
    refine E_mapUpdate (X ++ A) K ht hST' g3 hm' hx hy (fun W' R' h1 h2 => hK W' (A ++ (R' ++ B)) ?_ (g4 _ _ h2))
    simpa using h1
theorem E_newDeep {Kk : Value → World → Prop} (X : List (Nat × Obj)) {Y R R2 : List (Nat × Obj)} {t e : TypeId} {m x y : Operand} {mv : Value} {lv : List (κ × Value)} {l l' : List (κ × γ)} {k : κ} {u : Value} {z : γ} (K : KeyLaw P kt kenc beq) (ht : P.underlying t = some (.map kt e))
    (hST : ST dd F w W μ (X ++ (R ++ (R2 ++ Y)))) (h : DeepV kenc Q mv lv l R) (hm : evE E m = mv) (hx : evE E x = kenc k) (hy : evE E y = u) (hq : Q u z R2) (hl : mnew beq l k z = some l')
    (hK : ∀ W' R', ST dd F w W' μ (X ++ (R' ++ Y)) → DeepV kenc Q mv (mput beq lv k u) l' R' → Kk undef W') : Eff P E ⟨d, .mapUpdate t m x y, ty, pos, af, g⟩ W Kk := by
  unfold mnew at hl
  cases hg : mget beq l k with
  | some l2 => rw [hg] at hl; cases hl
  | none =>
    rw [hg] at hl
    simp only [Option.isNone_none, if_true, Option.some.injEq] at hl
    subst hl
    have hn := h.miss hg
    obtain ⟨Rm, Rv, rfl, h2, h3⟩ := h
    have hST' : ST dd F w W μ (X ++ (Rm ++ (Rv ++ (R2 ++ Y)))) := by simpa using hST
    refine E_mapUpdate X K ht hST' h2 hm hx hy (fun W' R' g1 g2 => hK W' (R' ++ (Rv ++ R2)) (by simpa using g1) ⟨R', Rv ++ R2, rfl, g2, ?_⟩)
    have e1 : ∀ {δ : Type} (q : List (κ × δ)) (y : δ), mget beq q k = none → mput beq q k y = q ++ [(k, y)] := fun q y hq' => by
      rw [mget_idx] at hq'
      rw [mput]
      cases hi : q.findIdx? (fun p => beq k p.1) with
      | none => rfl
      | some i =>
        obtain ⟨p, hp, _⟩ := findIdx_lt hi
        rw [hi] at hq'
        simp [hp] at hq'
    rw [e1 lv u hn, e1 l z hg]
    exact h3.push k hq
theorem DeepV.slAt {α : Type} {e : TypeId} {enc : α → List Value} {n : Nat} (hn : ∀ x, (enc x).length = n) {mv : Value} {lv : List (κ × Value)} {l : List (κ × List α)} {R : List (Nat × Obj)} (hk : ∀ {x y : κ}, beq x y = true → x = y) (h : DeepV kenc (Row e enc n) mv lv l R) (k : κ) {μ : Mem} (hR : ∀ b o, (b, o) ∈ R → μ b = some o) :
    Sl (Pl enc) n μ (valAt beq lv k (.slice none 0 0)) ((mget beq l k).getD []) := by
  cases hx : mget beq l k with
  | none => rw [valAt, h.miss hx]; exact ⟨none, 0, rfl, Nat.le_refl _, Nat.zero_le _, fun h => absurd h (Nat.lt_irrefl _)⟩
  | some x =>
    obtain ⟨v, A, R1, B, g1, rfl, g3, _⟩ := h.found hk hx
    rw [valAt, g1]
    exact g3.sl hn (fun b o hb => hR b o (by simp [hb]))
end
end Go.Proofs.YtmlncblocfcmiaaGreat
namespace Go.Proofs.YtmlncblocfcmiaaGreat
open Go.RowKit
variable {dd : Bool}
section
variable {κ γ : Type} {Q : Value → γ → List (Nat × Obj) → Prop} {beq : κ → κ → Bool} {kenc : κ → Value}
theorem mput_found {δ : Type} {l : List (κ × δ)} {k : κ} {i : Nat} (h : l.findIdx? (fun p => beq k p.1) = some i) (x : δ) : mput beq l k x = l.set i (k, x) := by rw [mput, h]
theorem mput_miss {δ : Type} {l : List (κ × δ)} {k : κ} (h : l.findIdx? (fun p => beq k p.1) = none) (x : δ) : mput beq l k x = l ++ [(k, x)] := by rw [mput, h]
theorem mget_miss {δ : Type} {l : List (κ × δ)} {k : κ} (h : l.findIdx? (fun p => beq k p.1) = none) : mget beq l k = none := by rw [mget_idx, h]; rfl
theorem mget_found {δ : Type} {l : List (κ × δ)} {k : κ} {i : Nat} {p : κ × δ} (h : l.findIdx? (fun p => beq k p.1) = some i) (hp : l[i]? = some p) : mget beq l k = some p.2 := by rw [mget_idx, h]; simp [hp]
def HoleV (beq : κ → κ → Bool) (kenc : κ → Value) (Q : Value → γ → List (Nat × Obj) → Prop) (mv : Value) (lv : List (κ × Value)) (l : List (κ × γ)) (k : κ) (R : List (Nat × Obj)) : Prop :=
  ∃ Rm A B, R = Rm ++ (A ++ B) ∧ MapRow kenc (fun x => x) mv lv Rm ∧ ∀ v x R1, Q v x R1 → Vals Q (mput beq lv k v) (mput beq l k x) (A ++ (R1 ++ B))
theorem DeepV.open (hk : ∀ {x y : κ}, beq x y = true → x = y) {mv z : Value} {x0 : γ} (hq0 : Q z x0 []) {lv : List (κ × Value)} {l : List (κ × γ)} {R : List (Nat × Obj)} (h : DeepV kenc Q mv lv l R) (k : κ) :
    ∃ R' R1, R.Perm (R' ++ R1) ∧ Q (valAt beq lv k z) ((mget beq l k).getD x0) R1 ∧ HoleV beq kenc Q mv lv l k R' := by
  obtain ⟨Rm, Rv, rfl, h2, h3⟩ := h
  have hf := h3.find (beq := beq) k
  cases hi : l.findIdx? (fun p => beq k p.1) with
  | none =>
    rw [hi] at hf
    refine ⟨Rm ++ Rv, [], by simp, ?_, Rm, Rv, [], by simp, h2, fun v x R1 hq => ?_⟩
    · rw [valAt, mget_miss hi, mget_miss hf]; exact hq0
    · rw [mput_miss hi, mput_miss hf]; simpa using h3.push k hq
  | some i =>
    rw [hi] at hf
    obtain ⟨p, hp, hb⟩ := findIdx_lt hi
    have hkk := hk hb
    obtain ⟨v, A, R1, B, g1, rfl, g3, g4⟩ := h3.get i p.1 p.2 hp
    refine ⟨Rm ++ (A ++ B), R1, ?_, ?_, Rm, A, B, rfl, h2, fun v2 x2 R2 hq => ?_⟩
    · rw [List.append_assoc, List.append_assoc]
      refine List.Perm.append_left _ (List.Perm.append_left _ List.perm_append_comm)
    · rw [valAt, mget_found hi hp, mget_found hf g1]; exact g3
    · rw [mput_found hi, mput_found hf]; exact g4 k v2 x2 R2 hq
variable {P : Program} {W : World} {kt : TypeId} {E : Nat → Value} {d : Option Nat} {ty : TypeId} {pos : String} {af : Array Edge} {g : Option (Nat × Bool)} {F : Nat → Prop} {w : World} {μ : Mem} {L : List (Nat × Obj)}
theorem E_fill {Kk : Value → World → Prop} (X : List (Nat × Obj)) {Y R R1 : List (Nat × Obj)} {t e : TypeId} {m x y : Operand} {mv : Value} {lv : List (κ × Value)} {l : List (κ × γ)} {k : κ} {u : Value} {z : γ} (K : KeyLaw P kt kenc beq) (ht : P.underlying t = some (.map kt e))
    (hST : ST dd F w W μ (X ++ (R ++ (R1 ++ Y)))) (h : HoleV beq kenc Q mv lv l k R) (hm : evE E m = mv) (hx : evE E x = kenc k) (hy : evE E y = u) (hq : Q u z R1)
    (hK : ∀ W' R', ST dd F w W' μ (X ++ (R' ++ Y)) → DeepV kenc Q mv (mput beq lv k u) (mput beq l k z) R' → Kk undef W') : Eff P E ⟨d, .mapUpdate t m x y, ty, pos, af, g⟩ W Kk := by
  obtain ⟨Rm, A, B, rfl, h2, h3⟩ := h
  have hST' : ST dd F w W μ (X ++ (Rm ++ (A ++ (B ++ (R1 ++ Y))))) := by simpa using hST
  refine E_mapUpdate X K ht hST' h2 hm hx hy (fun W' R' g1 g2 => hK W' (R' ++ (A ++ (R1 ++ B))) ?_ ⟨R', A ++ (R1 ++ B), rfl, g2, h3 u z R1 hq⟩)
  refine g1.perm ?_
  simp only [List.append_assoc]
  refine List.Perm.append_left _ (List.Perm.append_left _ (List.Perm.append_left _ ?_))
  rw [← List.append_assoc, ← List.append_assoc]
  exact List.Perm.append_right _ List.perm_append_comm
def HoleE (beq : κ → κ → Bool) (kenc : κ → Value) (Q : Value → γ → List (Nat × Obj) → Prop) (mv : Value) (l : List (κ × γ)) (k : κ) (st : Nat) (R : List (Nat × Obj)) : Prop :=
  ∃ m es clock lv A B i e, mv = .map (some m) ∧ R = (m, .map es clock) :: (A ++ B) ∧ MapOf kenc (fun x => x) lv es clock ∧ es[i]? = some e ∧ e.born = st ∧ lv.findIdx? (fun p => beq k p.1) = some i ∧
    ∀ v x R1, Q v x R1 → Vals Q (mput beq lv k v) (mput beq l k x) (A ++ (R1 ++ B))
theorem mput_mput {δ : Type} (hk : ∀ x : κ, beq x x = true) (lv : List (κ × δ)) (k : κ) (a b : δ) : mput beq (mput beq lv k a) k b = mput beq lv k b := by
  cases hi : lv.findIdx? (fun p => beq k p.1) with
  | none =>
    have h1 : (lv ++ [(k, a)]).findIdx? (fun p => beq k p.1) = some lv.length := by
      rw [List.findIdx?_append, hi]
      simp [List.findIdx?_cons, hk]
    rw [mput_miss hi, mput_miss hi, mput_found h1]
    simp
  | some i =>
    obtain ⟨p, hp, hb⟩ := findIdx_lt hi
    have h1 : (lv.set i (k, a)).findIdx? (fun p => beq k p.1) = some i := by
      rw [List.findIdx?_eq_some_iff_getElem] at hi ⊢
      obtain ⟨h1, h2, h3⟩ := hi
      refine ⟨by simpa using h1, by simp [hk], fun j hj => ?_⟩
      rw [List.getElem_set_ne (by omega)]
      exact h3 j hj
    rw [mput_found hi, mput_found hi, mput_found h1]
    simp
end
end Go.Proofs.YtmlncblocfcmiaaGreat
namespace Go.Proofs.YtmlncblocfcmiaaGreat
open Go.RowKit
variable {dd : Bool}
section
variable {κ γ : Type} {Q : Value → γ → List (Nat × Obj) → Prop} {beq : κ → κ → Bool} {kenc : κ → Value}
variable {P : Program} {W : World} {kt : TypeId} {E : Nat → Value} {d : Option Nat} {ty : TypeId} {pos : String} {af : Array Edge} {g : Option (Nat × Bool)} {F : Nat → Prop} {w : World} {μ : Mem} {L : List (Nat × Obj)}
theorem modify_congr {es : Array MapEntry} {i : Nat} {f f' : MapEntry → MapEntry} (h : ∀ e, es[i]? = some e → f e = f' e) : es.modify i f = es.modify i f' := by
  apply Array.ext_getElem?
  intro j
  rw [Array.getElem?_modify, Array.getElem?_modify]
  split
  · rename_i hij
    subst hij
    cases he : es[i]? with
    | none => rfl
    | some e => simp [h e he]
  · rfl
theorem MapOf.val {lv : List (κ × Value)} {es : Array MapEntry} {clock : Nat} (h : MapOf kenc (fun x => x) lv es clock) {i : Nat} {e : MapEntry} (he : es[i]? = some e) : ∃ p, lv[i]? = some p ∧ e.key = kenc p.1 ∧ e.val = p.2 := by
  have hj := congrArg (fun q => q[i]?) h.pairs
  simp only [List.getElem?_map, Array.getElem?_toList, he, Option.map_some] at hj
  cases hp : lv[i]? with
  | none => rw [hp] at hj; cases hj
  | some p =>
    rw [hp] at hj
    simp only [Option.map_some, Option.some.injEq, Prod.mk.injEq] at hj
    exact ⟨p, rfl, hj.1, hj.2⟩
theorem E_mapEntry {Kk : Value → World → Prop} (X : List (Nat × Obj)) {Y R : List (Nat × Obj)} {t e : TypeId} {m x : Operand} {mv z : Value} {x0 : γ} {lv : List (κ × Value)} {l : List (κ × γ)} {k : κ} (hk : ∀ {x y : κ}, beq x y = true ↔ x = y) (K : KeyLaw P kt kenc beq) (ht : P.underlying t = some (.map kt e))
    (hz : ∀ w, (zeroValue e).run P w = .ok z w) (hq0 : Q z x0 []) (hST : ST dd F w W μ (X ++ (R ++ Y))) (h : DeepV kenc Q mv lv l R) (hm : evE E m = mv) (hx : evE E x = kenc k)
    (hK : ∀ W' v st R' R1, ST dd F w W' μ (X ++ (R' ++ (R1 ++ Y))) → Q v ((mget beq l k).getD x0) R1 → HoleE beq kenc Q mv l k st R' → Kk (.tuple #[v, .int .i64 (st : Nat)]) W') : Eff P E ⟨d, .mapEntry t m x, ty, pos, af, g⟩ W Kk := by
  obtain ⟨Rm, Rv, rfl, ⟨mb, es, clock, rfl, rfl, h2⟩, h3⟩ := h
  have hb : W.heap[mb]? = some (.map es clock) := (hST.box mb (.map es clock) (by simp)).1
  have h5 : ((getObj mb : Sem Obj)).run P W = .ok (.map es clock) W := by simp [getObj, Sem.run, hb]
  have h6 := K.find k _ _ h2.keys W
  rw [h2.get k] at h6
  have hf := h3.find (beq := beq) k
  have hrun : ∀ W' v, (Instr.mapEntry t (.map (some mb)) (kenc k)).run P W = .ok v W' → (execOp (evE E) ⟨d, .mapEntry t m x, ty, pos, af, g⟩).run P W = .ok (.value v) W' := by
    intro W' v hr
    show (do pure (.value (← Instr.mapEntry t (evE E m) (evE E x))) : Sem Next).run P W = _
    rw [hm, hx]
    simp [hr]
  have hST1 : ST dd F w W μ (X ++ (mb, .map es clock) :: (Rv ++ Y)) := by simpa using hST
  cases hi : lv.findIdx? (fun p => beq k p.1) with
  | none =>
    rw [hi] at h6 hf
    have hput := h2.put (beq := beq) k z
    rw [hi] at hput
    refine .inl ⟨_, ChangeMaps.setBlock W mb (.map (es.push { key := kenc k, val := z, born := clock }) (clock + 1)), hrun _ (.tuple #[z, .int .i64 (clock : Nat)]) ?_, hK _ z clock ((mb, .map (es.push { key := kenc k, val := z, born := clock }) (clock + 1)) :: (Rv ++ [])) [] ?_ ?_ ?_⟩
    · simp [Instr.mapEntry, run_underlying ht, h5, K.check, h6, run_setMap hb, hz _, goInt]
    · have := hST1.setBlock (.map (es.push { key := kenc k, val := z, born := clock }) (clock + 1))
      simpa using this
    · rw [mget_miss hf.symm]; exact hq0
    · refine ⟨mb, _, _, lv ++ [(k, z)], Rv, [], es.size, { key := kenc k, val := z, born := clock }, rfl, rfl, hput, by simp, rfl, ?_, fun v x R1 hq => ?_⟩
      · rw [List.findIdx?_append, hi]
        have hsz := h2.length
        simp [List.findIdx?_cons, hk, hsz]
      · rw [← mput_miss hi, mput_mput (fun x => hk.2 rfl), mput_miss hi, mput_miss hf.symm]
        simpa using h3.push k hq
  | some i =>
    rw [hi] at h6 hf
    obtain ⟨p, hp, hbq⟩ := findIdx_lt hi
    obtain ⟨q, hqq, hbq2⟩ := findIdx_lt hf.symm
    have hkq := hk.1 hbq2
    obtain ⟨v, A, R1, B, g1, rfl, g3, g4⟩ := h3.get i q.1 q.2 hqq
    have hpv : p.2 = v := by rw [g1] at hp; cases hp; rfl
    have hsz := h2.length
    have hil : i < lv.length := (List.getElem?_eq_some_iff.1 hp).1
    obtain ⟨en, hen⟩ : ∃ en, es[i]? = some en := ⟨es[i], Array.getElem?_eq_getElem (by omega)⟩
    obtain ⟨p', hp', hkey', hval'⟩ := h2.val hen
    rw [hp] at hp'
    cases hp'
    simp only [Option.bind_some, hp, Option.map_some] at h6
    have hput := h2.put (beq := beq) k v
    rw [hi] at hput
    have hkey : ((es[i]?).map (·.key)).getD (kenc k) = kenc k := by
      rw [hen]
      simp only [Option.map_some, Option.getD_some, hkey']
      exact K.eq k p.1 hbq
    have hmod : es.modify i (fun e => { e with key := kenc k }) = es.modify i (fun e => { e with key := kenc k, val := v }) := modify_congr fun e he => by
      rw [hen] at he; cases he
      rw [← hpv, ← hval']
    refine .inl ⟨_, ChangeMaps.setBlock W mb (.map (es.modify i fun e => { e with key := kenc k, val := v }) clock), hrun _ (.tuple #[v, .int .i64 (en.born : Nat)]) ?_, hK _ v en.born ((mb, .map (es.modify i fun e => { e with key := kenc k, val := v }) clock) :: (A ++ B)) R1 ?_ ?_ ?_⟩
    · simp only [Instr.mapEntry, Sem.run_bind, run_underlying ht, h5, K.check, h6, Result.andThen_ok, hkey, Instr.keyThatStays, K.bits, if_true, Sem.run_pure]
      rw [run_setMap hb, hmod]
      simp [hen, goInt, hpv]
    · have := hST1.setBlock (.map (es.modify i fun e => { e with key := kenc k, val := v }) clock)
      refine this.perm ?_
      simp only [List.append_assoc, List.cons_append]
      refine List.Perm.append_left _ (List.Perm.cons _ (List.Perm.append_left _ ?_))
      rw [← List.append_assoc, ← List.append_assoc]
      exact List.Perm.append_right _ List.perm_append_comm
    · rw [mget_found hf.symm hqq]; exact g3
    · refine ⟨mb, _, _, lv.set i (k, v), A, B, i, { en with key := kenc k, val := v }, rfl, rfl, hput, ?_, rfl, ?_, fun v2 x2 R2 hq => ?_⟩
      · rw [Array.getElem?_modify, if_pos rfl, hen]; rfl
      · rw [List.findIdx?_eq_some_iff_getElem] at hi ⊢
        obtain ⟨h1, h2, h3⟩ := hi
        refine ⟨by simpa using h1, by simp [hk], fun j hj => ?_⟩
        rw [List.getElem_set_ne (by omega)]
        exact h3 j hj
      · rw [← mput_found hi, mput_mput (fun x => hk.2 rfl), mput_found hi, mput_found hf.symm]
        exact g4 k v2 x2 R2 hq
theorem born_find {es : Array MapEntry} (h : es.toList.Pairwise (fun a b => a.born < b.born)) {i : Nat} {e : MapEntry} (he : es[i]? = some e) : es.findIdx? (fun a => (a.born : Int) == (e.born : Int)) = some i := by
  rw [Array.findIdx?_eq_some_iff_getElem]
  obtain ⟨hl, hei⟩ := Array.getElem?_eq_some_iff.1 he
  refine ⟨hl, by rw [hei]; simp, fun j hj => ?_⟩
  have := List.pairwise_iff_getElem.1 h j i (by simpa using Nat.lt_trans hj hl) (by simpa using hl) hj
  simp only [Array.getElem_toList] at this
  rw [hei] at this
  simp
  omega
theorem E_entryStore {Kk : Value → World → Prop} (X : List (Nat × Obj)) {Y R R1 : List (Nat × Obj)} {t e : TypeId} {m s y : Operand} {mv u : Value} {z : γ} {l : List (κ × γ)} {k : κ} {st : Nat} (hk : ∀ {x y : κ}, beq x y = true ↔ x = y) (K : KeyLaw P kt kenc beq)
    (hST : ST dd F w W μ (X ++ (R ++ (R1 ++ Y)))) (h : HoleE beq kenc Q mv l k st R) (hm : evE E m = mv) (hs : evE E s = .int .i64 (st : Nat)) (hy : evE E y = u) (hq : Q u z R1)
    (hK : ∀ W' lv' R', ST dd F w W' μ (X ++ (R' ++ Y)) → DeepV kenc Q mv lv' (mput beq l k z) R' → Kk undef W') : Eff P E ⟨d, .entryStore t m s y, ty, pos, af, g⟩ W Kk := by
  obtain ⟨mb, es, clock, lv, A, B, i, en, rfl, rfl, h2, hen, hborn, hi, h3⟩ := h
  have hb : W.heap[mb]? = some (.map es clock) := (hST.box mb (.map es clock) (by simp)).1
  have h5 : ((getObj mb : Sem Obj)).run P W = .ok (.map es clock) W := by simp [getObj, Sem.run, hb]
  obtain ⟨p, hp, hbq⟩ := findIdx_lt hi
  obtain ⟨p', hp', hkey', hval'⟩ := h2.val hen
  rw [hp] at hp'
  cases hp'
  have hput := h2.put (beq := beq) k u
  rw [hi] at hput
  have hmod : es.modify i (fun e => { e with val := u }) = es.modify i (fun e => { e with key := kenc k, val := u }) := modify_congr fun e he => by
    rw [hen] at he; cases he
    have hen2 : en.key = kenc k := by rw [hkey']; exact K.eq k p.1 hbq
    rw [← hen2]
  have hfi := born_find h2.born hen
  rw [hborn] at hfi
  have hST1 : ST dd F w W μ (X ++ (mb, .map es clock) :: (A ++ (B ++ (R1 ++ Y)))) := by simpa using hST
  refine .inr (.inl ⟨ChangeMaps.setBlock W mb (.map (es.modify i fun e => { e with key := kenc k, val := u }) clock), ?_, hK _ (mput beq lv k u) ((mb, .map (es.modify i fun e => { e with key := kenc k, val := u }) clock) :: (A ++ (R1 ++ B))) ?_ ⟨[(mb, .map (es.modify i fun e => { e with key := kenc k, val := u }) clock)], A ++ (R1 ++ B), rfl, ⟨mb, _, _, rfl, rfl, ?_⟩, h3 u z R1 hq⟩⟩)
  · show (do Instr.entryStore t (evE E m) (evE E s) (evE E y); pure .skip : Sem Next).run P W = _
    rw [hm, hs, hy]
    simp only [Instr.entryStore, Sem.run_bind, h5, Result.andThen_ok, asInt, asIntOf, Sem.run_pure, hfi]
    rw [run_setMap hb, hmod]
    rfl
  · have := hST1.setBlock (.map (es.modify i fun e => { e with key := kenc k, val := u }) clock)
    refine this.perm ?_
    simp only [List.append_assoc, List.cons_append]
    refine List.Perm.append_left _ (List.Perm.cons _ (List.Perm.append_left _ ?_))
    rw [← List.append_assoc, ← List.append_assoc]
    exact List.Perm.append_right _ List.perm_append_comm
  · rw [mput_found hi]; exact hput
end
end Go.Proofs.YtmlncblocfcmiaaGreat
namespace Go.Proofs.YtmlncblocfcmiaaGreat
open Go.RowKit
variable {dd : Bool}
section
variable {κ γ : Type} {Q : Value → γ → List (Nat × Obj) → Prop} {beq : κ → κ → Bool} {kenc : κ → Value}
def DeepE (kenc : κ → Value) (Q : Value → γ → List (Nat × Obj) → Prop) (v : Value) (l : List (κ × γ)) (R : List (Nat × Obj)) : Prop := ∃ lv, DeepV kenc Q v lv l R
def DeepAt (kenc : κ → Value) (Q : Value → γ → List (Nat × Obj) → Prop) (μ : Mem) (v : Value) (l : List (κ × γ)) : Prop := ∃ lv R, DeepV kenc Q v lv l R ∧ ∀ b o, (b, o) ∈ R → μ b = some o
theorem DeepE.at {v : Value} {l : List (κ × γ)} {R : List (Nat × Obj)} {μ : Mem} (h : DeepE kenc Q v l R) (hR : ∀ b o, (b, o) ∈ R → μ b = some o) : DeepAt kenc Q μ v l := let ⟨lv, h⟩ := h; ⟨lv, R, h, hR⟩
theorem DeepAt.mono {v : Value} {l : List (κ × γ)} {μ μ' : Mem} (h : DeepAt kenc Q μ v l) (hs : Sub μ μ') : DeepAt kenc Q μ' v l := let ⟨lv, R, h, hR⟩ := h; ⟨lv, R, h, fun b o hb => hs _ _ (hR b o hb)⟩
theorem DeepV.form {v : Value} {lv : List (κ × Value)} {l : List (κ × γ)} {R : List (Nat × Obj)} (h : DeepV kenc Q v lv l R) : ∃ m, v = .map (some m) := let ⟨_, _, _, h, _⟩ := h; h.form
theorem DeepV.e {v : Value} {lv : List (κ × Value)} {l : List (κ × γ)} {R : List (Nat × Obj)} (h : DeepV kenc Q v lv l R) : DeepE kenc Q v l R := ⟨lv, h⟩
theorem DeepE.form {v : Value} {l : List (κ × γ)} {R : List (Nat × Obj)} (h : DeepE kenc Q v l R) : ∃ m, v = .map (some m) := let ⟨_, h⟩ := h; h.form
theorem DeepE.new {v : Value} {R : List (Nat × Obj)} (h : MapRow (β := Value) kenc (fun x => x) v [] R) : DeepE kenc Q v [] R := ⟨[], R, [], (List.append_nil R).symm, h, rfl⟩
theorem DeepV.rowAt {α : Type} {e : TypeId} {enc : α → List Value} {n : Nat} {mv : Value} {lv : List (κ × Value)} {l : List (κ × List α)} {R : List (Nat × Obj)} (hk : ∀ {x y : κ}, beq x y = true → x = y) (h : DeepV kenc (Row e enc n) mv lv l R) (k : κ) :
    ∃ R1, Row e enc n (valAt beq lv k (.slice none 0 0)) ((mget beq l k).getD []) R1 ∧ ∀ b o, (b, o) ∈ R1 → (b, o) ∈ R := by
  cases hx : mget beq l k with
  | none => refine ⟨[], ?_, fun b o h => by cases h⟩; rw [valAt, h.miss hx]; exact .inl ⟨rfl, rfl, rfl⟩
  | some x =>
    obtain ⟨v, A, R1, B, g1, rfl, g3, _⟩ := h.found hk hx
    refine ⟨R1, ?_, fun b o hb => by simp [hb]⟩
    rw [valAt, g1]; exact g3
theorem Row.slL {α : Type} {e : TypeId} {enc : α → List Value} {k : Nat} {v : Value} {l : List α} {R : List (Nat × Obj)} (h : Row e enc k v l R) (hk : ∀ x, (enc x).length = k) : Sl (Pl enc) k (memL R) v l := by
  refine h.sl hk (fun b o hb => ?_)
  rcases h with ⟨rfl, rfl, rfl⟩ | ⟨g, cap, cur, rfl, rfl, _⟩
  · cases hb
  · simp at hb; obtain ⟨rfl, rfl⟩ := hb; simp [memL]
end
theorem Has.hp (W : World) : Has (hp W) [] W := ⟨fun _ _ h => h, fun _ _ h => by cases h⟩
section
variable {P : Program} {W : World} {E : Nat → Value} {d : Option Nat} {ty : TypeId} {pos : String} {af : Array Edge} {g : Option (Nat × Bool)} {F : Nat → Prop} {w : World} {μ : Mem} {L : List (Nat × Obj)}
theorem equalIn_map_nil {t k e : TypeId} (dd : Nat) (ht : P.underlying t = some (.map k e)) (a : Option Nat) (W : World) : (Op.equalIn (dd + 1) t (.map a) (.map none)).run P W = .ok a.isNone W := by
  cases a <;> simp [Op.equalIn, run_underlying ht]
theorem R_mapEqNil {tx tv k e : TypeId} {x y : Operand} {r : Option Nat} {b : Bool} (ht : P.underlying tx = some (.map k e)) (hx : evE E x = .map r) (hy : evE E y = .map none) (hb : r.isNone = b) :
    Runs P E ⟨d, .binOp .eql tx x y tv, ty, pos, af, g⟩ W (.bool b) W := by
  subst hb
  show (do let r ← (do eqGuard .eql tx x y (evE E x) (evE E y); binOp .eql tx (evE E x) (evE E y)); pure (.value r) : Sem Next).run P W = _
  rw [hx, hy]
  have h0 := equalIn_map_nil 9999 ht r W
  simp [eqGuard, binOp, Op.equal, show Op.maxDepth = 9999 + 1 from rfl, h0]
theorem R_mapEqNilD {κ κ2 β : Type} {kenc : κ → Value} {kenc2 : κ2 → Value} {vf : β → Value} {beq : κ → κ → Bool} {tx tv kt e : TypeId} {x y : Operand} {mv : Value} {lv : List (κ × Value)} {l : List (κ × List (κ2 × β))} {R : List (Nat × Obj)} {k : κ} (hk : ∀ {x y : κ}, beq x y = true → x = y)
    (ht : P.underlying tx = some (.map kt e)) (h : DeepV kenc (MapRow kenc2 vf) mv lv l R) (hx : evE E x = valAt beq lv k (.map none)) (hy : evE E y = .map none) :
    Runs P E ⟨d, .binOp .eql tx x y tv, ty, pos, af, g⟩ W (.bool (mget beq l k).isNone) W := by
  obtain ⟨r, h1, h2⟩ := h.isNil hk k
  exact R_mapEqNil ht (hx.trans h1) hy h2
theorem E_makeMapD {κ γ : Type} {Kk : Value → World → Prop} {t : TypeId} (kenc : κ → Value) (Q : Value → γ → List (Nat × Obj) → Prop) (hST : ST dd F w W μ L) (hK : ∀ W' v R, ST dd F w W' μ (R ++ L) → DeepE kenc Q v [] R → Kk v W') : Eff P E ⟨d, .makeMap t none, ty, pos, af, g⟩ W Kk :=
  E_makeMap kenc (fun x : Value => x) hST (fun W' v R h1 h2 => hK W' v R h1 (DeepE.new h2))
end
def Que {α : Type} (e : TypeId) (enc : α → List Value) (k : Nat) (v : Value) (l : List α) (R : List (Nat × Obj)) : Prop :=
  (v = .slice none 0 0 ∧ l = [] ∧ R = []) ∨
  ∃ g off cap cur, v = .slice (some ⟨g, off, none⟩) l.length cap ∧ R = [(g, .cells cur e (0, 0))] ∧ l.length ≤ cap ∧ cap ≤ maxLen ∧ off + cap * k ≤ cur.size ∧ (cur.toList.drop off).take (l.length * k) = (l.map enc).flatten
section
variable {α : Type} {e : TypeId} {enc : α → List Value} {k : Nat} {v : Value} {l : List α} {R : List (Nat × Obj)}
theorem Que.nil (e : TypeId) (enc : α → List Value) (k : Nat) : Que e enc k (.slice none 0 0) [] [] := .inl ⟨rfl, rfl, rfl⟩
theorem Row.que (h : Row e enc k v l R) : Que e enc k v l R := by
  rcases h with h | ⟨g, cap, cur, h1, h2, h3, h4, h5, h6⟩
  · exact .inl h
  · exact .inr ⟨g, 0, cap, cur, h1, h2, h3, h4, by omega, by simpa using h6⟩
theorem Que.len (h : Que e enc k v l R) : l.length ≤ 9223372036854775807 := by
  rcases h with ⟨rfl, rfl, rfl⟩ | ⟨g, off, cap, cur, rfl, rfl, h1, h2, _⟩
  · simp
  · unfold maxLen at h2; omega
theorem Que.form (h : Que e enc k v l R) : ∃ A c, v = .slice A l.length c := by
  rcases h with ⟨rfl, rfl, rfl⟩ | ⟨g, off, cap, cur, rfl, rfl, _⟩
  · exact ⟨_, _, rfl⟩
  · exact ⟨_, _, rfl⟩
theorem Que.slL (h : Que e enc k v l R) (hk : ∀ x, (enc x).length = k) : Sl (Pl enc) k (memL R) v l := by
  rcases h with ⟨rfl, rfl, rfl⟩ | ⟨g, off, cap, cur, rfl, rfl, h1, h2, h3, h4⟩
  · exact Sl.nil _ _ _
  · refine ⟨_, cap, rfl, h1, h2, fun _ => ⟨g, off, cur, e, (0, 0), rfl, by simp [memL], fun i x hx => ⟨enc x, hk x, rfl, fun j y hy => ?_⟩⟩⟩
    have := flat_get hk l i x hx j y hy
    rw [← h4] at this
    have hlt : i * k + j < l.length * k := by
      have := (List.getElem?_eq_some_iff.1 this).1
      simp at this; omega
    rw [List.getElem?_take_of_lt hlt, List.getElem?_drop] at this
    simpa [Nat.add_assoc] using this
variable {P : Program} {W : World} {E : Nat → Value} {d : Option Nat} {ty : TypeId} {pos : String} {af : Array Edge} {g : Option (Nat × Bool)} {F : Nat → Prop} {w : World} {μ : Mem} {L : List (Nat × Obj)}
theorem R_lenQue {x : Operand} {t e2 : TypeId} (ht : P.underlying t = some (.slice e2)) (hx : evE E x = v) (h : Que e enc k v l R) : Runs P E ⟨d, .call ⟨.builtin .len, #[x], #[t]⟩, ty, pos, af, g⟩ W (.int .i64 l.length) W := by
  obtain ⟨A, c, rfl⟩ := h.form
  exact R_lenSl ht hx
theorem R_sliceQue {t e2 : TypeId} {x il : Operand} {ik : IntKind} {i : Int} (ht : P.underlying t = some (.slice e2)) (he : ∀ w, (sizeOf e2).run P w = .ok k w) (hx : evE E x = v) (hi : evE E il = .int ik i) (hk : ∀ x, (enc x).length = k) (h : Que e enc k v l R) (h0 : 0 ≤ i) (hl : i ≤ l.length) :
    ∃ u, Que e enc k u (l.drop i.toNat) R ∧ ∀ W, Runs P E ⟨d, .slice t x (some il) none none, ty, pos, af, g⟩ W u W := by
  rcases h with ⟨rfl, rfl, rfl⟩ | ⟨g', off, cap, cur, rfl, rfl, h1, h2, h3, h4⟩
  · have : i = 0 := by simp at hl; omega
    subst this
    refine ⟨.slice none 0 0, by simpa using Que.nil e enc k, fun W => ?_⟩
    show (do pure (.value (← Instr.sliceAt t (evE E x) (some (evE E il)) none none)) : Sem Next).run P W = _
    rw [hx, hi]
    simp [Instr.sliceAt, Instr.slice, Instr.sliceBounds, Instr.sliceBound, asIntOf, run_underlying ht, he W]
  · refine ⟨.slice (some (if cap = i.toNat then ⟨g', off, none⟩ else (Addr.add ⟨g', off, none⟩ (i.toNat * k)))) (l.length - i.toNat) (cap - i.toNat), .inr ?_, fun W => ?_⟩
    · have hll : (l.drop i.toNat).length = l.length - i.toNat := by simp
      have hmap : (l.map enc).flatten.drop (i.toNat * k) = ((l.drop i.toNat).map enc).flatten := by
        have h5 : l = l.take i.toNat ++ l.drop i.toNat := (List.take_append_drop _ _).symm
        have h6 : ((l.take i.toNat).map enc).flatten.length = i.toNat * k := by rw [flat_length hk, List.length_take, Nat.min_eq_left (by omega)]
        conv => lhs; rw [h5, List.map_append, List.flatten_append]
        rw [← h6, List.drop_left]
      by_cases hc : cap = i.toNat
      · rw [if_pos hc]
        have hn : l.drop i.toNat = [] := List.drop_eq_nil_of_le (by omega)
        refine ⟨g', off, cap - i.toNat, cur, by rw [hn]; simp; omega, rfl, by rw [hn]; simp, by omega, by have : (cap - i.toNat) * k ≤ cap * k := Nat.mul_le_mul_right _ (by omega); omega, by rw [hn]; simp⟩
      · rw [if_neg hc]
        refine ⟨g', off + i.toNat * k, cap - i.toNat, cur, by rw [hll, Addr.add_lit], rfl, by rw [hll]; omega, by omega, ?_, ?_⟩
        · have : i.toNat * k + (cap - i.toNat) * k = cap * k := by rw [← Nat.add_mul]; congr 1; omega
          omega
        · rw [hll, ← hmap, ← h4, List.drop_take, List.drop_drop, Nat.sub_mul]
    · show (do pure (.value (← Instr.sliceAt t (evE E x) (some (evE E il)) none none)) : Sem Next).run P W = _
      rw [hx, hi]
      have hb : 0 ≤ i ∧ i ≤ (l.length : Int) := ⟨h0, hl⟩
      simp [Instr.sliceAt, Instr.slice, Instr.sliceBounds, Instr.sliceBound, asIntOf, run_underlying ht, he W, hb]
      split <;> rfl
theorem E_appendQue {K : Value → World → Prop} {t : TypeId} {by_ : Nat} {z vs : Value} {m r : List α} (X : List (Nat × Obj)) {Y : List (Nat × Obj)} {x y : Operand} {i : TypeInfo}
    (hST : ST dd F w W μ (X ++ (R ++ Y))) (hk : ∀ x, (enc x).length = k) (hk0 : 0 < k) (h1 : ∀ x, ∀ u ∈ enc x, u.oneCell' = true) (ht : P.underlying t = some (.slice e)) (hi : P.info? e = some i) (hz : i.zero = some z) (hzs : z.cells.size = k) (hsz : i.size = k) (hby : i.bytes = by_)
    (hx : evE E x = v) (hy : evE E y = vs) (hR : Que e enc k v l R) (hs : Sl (Pl enc) k (hp W) vs m) (hb : appB by_ l m = some r)
    (h : ∀ W' v' R', ST dd F w W' μ (X ++ (R' ++ Y)) → Que e enc k v' r R' → K v' W') : Eff P E ⟨d, .call ⟨.builtin .append, #[x, y], #[t, t]⟩, ty, pos, af, g⟩ W K := by
  rcases hR with ⟨rfl, rfl, rfl⟩ | ⟨g', off, cap, cur, rfl, rfl, h2, h3, h4, h5⟩
  · exact E_append X hST hk hk0 h1 ht hi hz hzs hsz hby hx hy (Row.nil e enc k) hs hb (fun W' v' R' a b => h W' v' R' a b.que)
  unfold appB at hb
  split at hb
  case isFalse => cases hb
  rename_i hbb
  cases hb
  have hrun : ∀ (V : Value) (W' : World), (Builtin.append_ #[t, t] ty #[.slice (some ⟨g', off, none⟩) l.length cap, vs]).run P W = .ok V W' → (execOp (evE E) ⟨d, .call ⟨.builtin .append, #[x, y], #[t, t]⟩, ty, pos, af, g⟩).run P W = .ok (.value V) W' := by
    intro V W' hV
    show (do let d ← resolve (evE E) ⟨.builtin .append, #[x, y], #[t, t]⟩ ty; invoke d.target d.args : Sem Next).run P W = _
    simp [resolve, invoke, builtin, hx, hy, hV]
  obtain ⟨A, c, rfl, hc1, hc2, hc3⟩ := hs
  have hST0 : ST dd F w W μ (X ++ (g', .cells cur e (0, 0)) :: Y) := by simpa using hST
  have hg : W.heap[g']? = some (.cells cur e (0, 0)) := (hST0.box g' _ (by simp)).1
  have hfl := flat_length hk l
  have hone : ∀ u ∈ (m.map enc).flatten, u.oneCell' = true := by
    intro u hu
    obtain ⟨ys, hys, hu'⟩ := List.mem_flatten.1 hu
    obtain ⟨x, _, rfl⟩ := List.mem_map.1 hys
    exact h1 x u hu'
  have hsrc : Src P i.size t (.slice A m.length c) m.length ((m.map enc).flatten) W := by
    rw [hsz]
    rcases Nat.eq_zero_or_pos m.length with h0 | h0
    · have hm : m = [] := List.eq_nil_of_length_eq_zero h0
      subst hm
      cases A with
      | none => exact Src.ofNil W ht c
      | some ad => exact Src.ofSlice W ht ad 0 c [] (by simp) (fun j u hu => by simp at hu) (fun u hu => by cases hu)
    · obtain ⟨b, o, cs, T, fr, rfl, h6, h7⟩ := hc3 h0
      refine Src.ofSlice W ht _ _ c _ (flat_length hk m) (fun j u hu => ?_) hone
      obtain ⟨i, x, q, h8, h9, rfl⟩ := flat_inv hk m j u hu
      obtain ⟨ys, _, h11, h12⟩ := h7 i x h8
      cases h11
      rw [Addr.add_lit, cell_of_row W b (o + (i * k + q)) cs T fr h6, ← Nat.add_assoc]
      exact h12 q u h9
  have hfml := flat_length hk m
  have hfin : ((l ++ m).map enc).flatten = (l.map enc).flatten ++ (m.map enc).flatten := by simp
  generalize (m.map enc).flatten = fm at hsrc hone hfml hfin
  subst hsz
  have hlk : l.length * i.size ≤ cap * i.size := Nat.mul_le_mul_right _ h2
  by_cases hroom : l.length + m.length ≤ cap
  · have hmk : l.length * i.size + m.length * i.size ≤ cap * i.size := by rw [← Nat.add_mul]; exact Nat.mul_le_mul_right _ hroom
    have hst := run_storeCells_at (P := P) g' (off + l.length * i.size) e fm 0 cur W hg (by rw [hfml]; omega) hone
    have happ : (Builtin.append_ #[t, t] ty #[.slice (some ⟨g', off, none⟩) l.length cap, .slice A m.length c]).run P W = .ok (.slice (some ⟨g', off, none⟩) (l.length + m.length) cap) (W.setRow g' (cur.toList.take (off + l.length * i.size) ++ fm ++ cur.toList.drop (off + l.length * i.size + fm.length)).toArray) := by
      simp [Builtin.append_, run_underlying ht, sizeOf, typeInfo, hi, hsrc.len, hroom, hsrc.cells, Addr.add_lit]
      simp only [Nat.add_zero] at hst
      rw [hst]
      simp
    refine .inl ⟨_, _, hrun _ _ happ, h _ _ [(g', _)] (by simpa using hST0.store _) (.inr ⟨g', off, cap, _, by rw [List.length_append], rfl, by simpa using hroom, h3, ?_, ?_⟩)⟩
    · simp only [List.size_toArray, List.length_append, List.length_take, List.length_drop, Array.length_toList, hfml]
      rw [Nat.min_eq_left (by omega)]
      omega
    · have hA : (cur.toList.take (off + l.length * i.size)).length = off + l.length * i.size := by simp; omega
      show ((cur.toList.take (off + l.length * i.size) ++ (fm ++ cur.toList.drop (off + l.length * i.size + fm.length))).drop off).take ((l ++ m).length * i.size) = _
      rw [hfin, List.drop_append, List.drop_take, hA, show off - (off + l.length * i.size) = 0 by omega, List.drop_zero, show off + l.length * i.size - off = l.length * i.size by omega, h5]
      rw [List.length_append, Nat.add_mul, List.take_append, List.take_append, hfl, hfml, List.take_of_length_le (by rw [hfl]; omega), show l.length * i.size + m.length * i.size - l.length * i.size = m.length * i.size by omega, List.take_of_length_le (by rw [hfml]; omega)]
      simp
  · have hold : (Builtin.firstCells i.size l.length (.slice (some ⟨g', off, none⟩) l.length cap)).run P W.drew = .ok ((l.map enc).flatten).toArray W.drew := by
      refine run_firstCells_some W.drew i.size l.length ⟨g', off, none⟩ l.length cap _ hfl (fun j u hu => ?_)
      rw [Addr.add_lit]
      show W.cell? ⟨g', off + j, none⟩ = some u
      rw [cell_of_row W g' (off + j) cur e (0, 0) hg]
      rw [← h5] at hu
      have hj : j < l.length * i.size := by have := (List.getElem?_eq_some_iff.1 hu).1; simp at this; omega
      rw [List.getElem?_take_of_lt hj, List.getElem?_drop] at hu
      simpa using hu
    have hlen : (l ++ m).length = l.length + m.length := List.length_append
    have hge := grownCap_ge W (l.length + m.length) cap e
    have hcm := grownCap_le_maxLen W (l.length + m.length) cap e hbb.2
    have happ := run_append_grow_src (P := P) W t t ty e i z ht hi hz (some ⟨g', off, none⟩) l.length cap ((l.map enc).flatten) hold _ m.length _ hsrc (by omega) (by have := hbb.2; unfold maxLen at this; omega) (growslice_fits (by omega) (by rw [hby]; exact hbb.1))
    have h6 := hST0.drew.alloc (.cells (((l.map enc).flatten ++ fm).toArray ++ Builtin.zeroCells z.cells (grownCap W (l.length + m.length) cap e - (l.length + m.length))) e (0, 0))
    have h7 := (ST.drop (A := (W.drew.heap.size, _) :: X) h6).perm (L' := X ++ ([(W.heap.size, _)] ++ Y)) (by simpa using (List.perm_middle (a := (W.heap.size, _)) (l₁ := X) (l₂ := Y)).symm)
    refine .inl ⟨_, _, hrun _ _ happ, h _ _ _ h7 (Row.que (.inr ⟨W.heap.size, grownCap W (l.length + m.length) cap e, _, by rw [hlen], rfl, by rw [hlen]; exact hge, hcm, ?_, ?_⟩))⟩
    · rw [Array.size_append, size_zeroCells, hzs]
      simp only [List.size_toArray, List.length_append, hfl, hfml]
      rw [← Nat.add_mul, ← Nat.add_mul]
      congr 1
      omega
    · rw [Array.toList_append, List.toList_toArray, hlen, hfin, List.take_append_of_le_length (by simp only [List.length_append, hfl, hfml]; rw [Nat.add_mul]; exact Nat.le_refl _), List.take_of_length_le (by simp only [List.length_append, hfl, hfml]; rw [Nat.add_mul]; exact Nat.le_refl _)]
end
end Go.Proofs.YtmlncblocfcmiaaGreat
namespace Go.Proofs.YtmlncblocfcmiaaGreat
open Go.RowKit
section
variable {P : Program} {ops : Array Oper} {Q : Exit → Act → World → Prop} {S : Array Bool → World → Prop}
def Closed (ops : Array Oper) (l : Array Bool) : Prop := ∀ j o, ops[j]? = some o → l.getD j true = true → ∀ e ∈ o.after, Region.binds .any e = true → l.getD e.on true = true
def chainB (ops : Array Oper) : Nat → List Nat → Bool
  | _, [] => true
  | j, k :: r => (match ops[j]? with | some o => o.after.any (fun e => Region.binds .any e && e.on == k) | none => false) && chainB ops k r
theorem chain_back {l : Array Bool} (hc : Closed ops l) : ∀ (r : List Nat) (j i : Nat), chainB ops j r = true → (j :: r).getLast? = some i → l.getD j true = true → l.getD i true = true
  | [], j, i, _, h, hj => by simp at h; subst h; exact hj
  | k :: r, j, i, h, hl, hj => by
    simp only [chainB, Bool.and_eq_true] at h
    obtain ⟨h1, h2⟩ := h
    cases ho : ops[j]? with
    | none => rw [ho] at h1; cases h1
    | some o =>
      rw [ho] at h1
      simp only [Array.any_eq_true] at h1
      obtain ⟨n, hn, h1⟩ := h1
      simp only [Bool.and_eq_true, beq_iff_eq] at h1
      have := hc j o ho hj o.after[n] (Array.getElem_mem hn) h1.1
      rw [h1.2] at this
      exact chain_back hc r k i h2 (by simpa [List.getLast?_cons_cons] using hl) this
def Pend (ops : Array Oper) (i : Nat) (l : Array Bool) : Prop := Closed ops l ∧ l.getD i true = false
theorem Pend.bar {l : Array Bool} {i : Nat} (h : Pend ops i l) (j : Nat) (r : List Nat) (hc : chainB ops j r = true) (hl : (j :: r).getLast? = some i) : l.getD j true = false := by
  cases hj : l.getD j true with
  | false => rfl
  | true => have := chain_back h.1 r j i hc hl hj; rw [h.2] at this; cases this
theorem Closed.start (n : Nat) (h : n = ops.size) : Closed ops (Array.replicate n false) := by
  subst h
  intro j o ho hj
  have hlt : j < ops.size := (Array.getElem?_eq_some_iff.1 ho).1
  simp [hlt] at hj
theorem Closed.set {l : Array Bool} {i : Nat} (h : Closed ops l) (hr : i ∈ Region.ready .any ops l) : Closed ops (l.setIfInBounds i true) := by
  intro j o ho hj e he hb
  have up : ∀ {k : Nat}, l.getD k true = true → (l.setIfInBounds i true).getD k true = true := fun {k} hk => by
    by_cases hik : i = k
    · subst hik
      by_cases hs : i < l.size
      · simp [hs]
      · simp [hs]
    · rw [getD_set_ne true hik]; exact hk
  by_cases hij : i = j
  · subst hij
    obtain ⟨_, o', ho', hall⟩ := mem_ready.1 hr
    rw [ho] at ho'
    cases ho'
    refine up ?_
    have := hall e he hb
    by_cases hs : e.on < l.size
    · simp [hs] at this ⊢; exact this
    · simp [hs]
  · rw [getD_set_ne true hij] at hj
    exact up (h j o ho hj e he hb)
def YieldsL (P : Program) (ops : Array Oper) (S : Array Bool → World → Prop) (i : Nat) (o : Oper) (v : Value) (a : Act) : Prop :=
  (Region.wanted o (yielded ops a.tmps) = true ∧ ∀ l w, Pend ops i l → S l w → (execOp a.eval o).run P w = .ok (.value v) w) ∨
  (Region.wanted o (yielded ops a.tmps) = false ∧ v = undef)
theorem YieldsL.if_ {i : Nat} {o : Oper} {v : Value} {a : Act} {l : Array Bool} (h : YieldsL P ops S i o v a) (hp : Pend ops i l) : YieldsIf P ops (S l) o v a :=
  h.imp (fun ⟨h1, h2⟩ => ⟨h1, fun w hw => h2 l w hp hw⟩) id
def wpL (P : Program) (ops : Array Oper) (Q : Exit → Act → World → Prop) (S : Array Bool → World → Prop) : Nat → Array Bool → Act → World → Prop
  | 0, l, a, w => Region.ready .any ops l = [] ∧ Q .normal a w
  | n + 1, l, a, w => (Region.ready .any ops l = [] → Q .normal a w) ∧
    ∀ i ∈ Region.ready .any ops l, wpOp P ops Q i (fun a' w' => S (l.setIfInBounds i true) w' ∧ wpL P ops Q S n (l.setIfInBounds i true) a' w') a w
theorem wpL_any : ∀ (n : Nat) (l : Array Bool) (a : Act) (w : World), wpL P ops Q S n l a w → wpAny P .any ops Q n l a w
  | 0, _, _, _, h => h
  | n + 1, _, _, _, h => ⟨h.1, fun i hi => wpOp_mono (fun a' w' h' => wpL_any n _ a' w' h'.2) (h.2 i hi)⟩
theorem wpOp_putL {i j : Nat} {oi oj : Oper} {v : Value} (hj : ops[j]? = some oj) (hap : oi.apart ops oj = true) (hsi : ∀ cs b, oi.op ≠ .select cs b) (hsj : ∀ cs b, oj.op ≠ .select cs b)
    (hQ : ∀ c a w, Q (.panic c) (a.put oi.dst v) w → Q (.panic c) a w) {K : Act → World → Prop} {a : Act} {w : World} (hy : YieldsL P ops S i oi v a) (h : wpOp P ops Q j K (a.put oi.dst v) w) :
    wpOp P ops Q j (fun a' w' => YieldsL P ops S i oi v a' ∧ K (a'.put oi.dst v) w') a w := by
  have h1 : YieldsIf P ops (fun w => ∃ l, Pend ops i l ∧ S l w) oi v a := hy.imp (fun ⟨h1, h2⟩ => ⟨h1, fun w ⟨l, hp, hw⟩ => h2 l w hp hw⟩) id
  refine wpOp_mono (fun a' w' h' => ⟨h'.1.imp (fun ⟨h1, h2⟩ => ⟨h1, fun l w hp hw => h2 w ⟨l, hp, hw⟩⟩) id, h'.2⟩) (wpOp_putIf (S := fun w => ∃ l, Pend ops i l ∧ S l w) hj hap hsi hsj hQ h1 h)
theorem wpL_first {i : Nat} {oi : Oper} {v : Value} (hi : ops[i]? = some oi) (hsel : ∀ (j : Nat) (o : Oper) cs b, ops[j]? = some o → o.op ≠ .select cs b) (hQ : ∀ c a w, Q (.panic c) (a.put oi.dst v) w → Q (.panic c) a w)
    (hm : ∀ l w, S (l.setIfInBounds i true) w → S l w) :
    ∀ (n : Nat) (l : Array Bool) (a : Act) (w : World), (∀ j oj, ops[j]? = some oj → j ≠ i → l.getD j true = false → (∀ e ∈ oj.after, Region.binds .any e = true → e.on ≠ i) → oi.apart ops oj = true) →
      Closed ops l → i ∈ Region.ready .any ops l → YieldsL P ops S i oi v a → S (l.setIfInBounds i true) w → wpL P ops Q S n (l.setIfInBounds i true) (a.put oi.dst v) w → wpL P ops Q S (n + 1) l a w := by
  intro n
  induction n with
  | zero =>
    intro l a w _ hc hr hy hS H
    refine ⟨fun h => (by rw [h] at hr; cases hr), fun j hj => ?_⟩
    by_cases hji : j = i
    · subst hji
      exact (hy.if_ ⟨hc, (mem_ready.1 hr).1⟩).wpOp hi (hm l w hS) ⟨hS, H⟩
    · have := ready_mono hj hji
      rw [H.1] at this
      cases this
  | succ n ih =>
    intro l a w hfree hc hr hy hS H
    refine ⟨fun h => (by rw [h] at hr; cases hr), fun j hj => ?_⟩
    by_cases hji : j = i
    · subst hji
      exact (hy.if_ ⟨hc, (mem_ready.1 hr).1⟩).wpOp hi (hm l w hS) ⟨hS, H⟩
    have h1 := H.2 j (ready_mono hj hji)
    obtain ⟨hjun, oj, hoj, hall⟩ := mem_ready.1 hj
    have hnot : ∀ e ∈ oj.after, Region.binds .any e = true → e.on ≠ i := fun e he hb heq => by
      have h2 := hall e he hb
      have h0 := (mem_ready.1 hr).1
      rw [heq] at h2
      rcases Nat.lt_or_ge i l.size with h' | h'
      · simp [h'] at h0 h2; rw [h0] at h2; cases h2
      · simp [Array.getElem?_eq_none h'] at h2
    have h2 := wpOp_putL hoj (hfree j oj hoj hji hjun hnot) (fun cs b => hsel i oi cs b hi) (fun cs b => hsel j oj cs b hoj) hQ hy h1
    have hfree' : ∀ k ok, ops[k]? = some ok → k ≠ i → (l.setIfInBounds j true).getD k true = false → (∀ e ∈ ok.after, Region.binds .any e = true → e.on ≠ i) → oi.apart ops ok = true := fun k ok hk hki hun hno => by
      refine hfree k ok hk hki ?_ hno
      by_cases hjk : j = k
      · subst hjk; exact hjun
      · rw [getD_set_ne true hjk] at hun; exact hun
    have hcomm : (l.setIfInBounds i true).setIfInBounds j true = (l.setIfInBounds j true).setIfInBounds i true := Array.setIfInBounds_comm _ _ (Ne.symm hji)
    refine wpOp_mono (fun a' w' h3 => ?_) h2
    have h4 : S ((l.setIfInBounds j true).setIfInBounds i true) w' := by rw [← hcomm]; exact h3.2.1
    refine ⟨hm _ w' h4, ih (l.setIfInBounds j true) a' w' hfree' (hc.set hj) (ready_mono hr (Ne.symm hji)) h3.1 h4 ?_⟩
    rw [← hcomm]
    exact h3.2.2
end
def PX (P : Program) (n : Nat) (ops : Array Oper) (Q : Post) (S : Array Bool → World → Prop) (fuel : Nat) (listed : Array Bool) (E : Nat → Value) (W : World) : Prop :=
  Closed ops listed → ∀ a, Ag n a E → wpL P ops (lift n Q) S fuel listed a W
section
variable {P : Program} {n : Nat} {Q : Post} {E : Nat → Value} {W : World} {ops : Array Oper} {S : Array Bool → World → Prop} {fuel : Nat} {listed : Array Bool}
theorem PX_start {id : Nat} {l : List Oper} (S : Array Bool → World → Prop) (hm : P.follows .mixedOrders = true) (h : PX P n l.toArray Q S l.length (Array.replicate l.length false) E W.drew) : CW P n (.region id l.toArray true) Q E W := fun a ha =>
  wp_region_any hm (wpL_any _ _ _ _ (h (Closed.start _ (by simp)) a ha))
def okB (ops : Array Oper) (listed : Array Bool) (i : Nat) : Bool := Region.noSelect ops && Region.free .any ops listed i && (Region.ready .any ops listed).contains i
theorem PX_v {o : Oper} {dd : Nat} {v : Value} (i : Nat) (hi : ops[i]? = some o) (hk : okB ops listed i = true) (hw : Wanted n ops E o) (hd : o.dst = some dd) (hn : dd < n) (hm : ∀ l w, S (l.setIfInBounds i true) w → S l w) (hS : S (listed.setIfInBounds i true) W)
    (hy : ∀ l W, Pend ops i l → S l W → Runs P E o W v W) (h : PX P n ops Q S fuel (listed.setIfInBounds i true) (upd E dd v) W) : PX P n ops Q S (fuel + 1) listed E W := fun hc a ha => by
  simp only [okB, Bool.and_eq_true] at hk
  have hr : i ∈ Region.ready .any ops listed := by simpa using hk.2
  exact wpL_first hi (Region.noSelect_spec hk.1.1) (fun _ _ _ h => h) hm fuel listed a W (Region.free_spec hi hk.1.2) hc hr (.inl ⟨hw.of ha, fun l w hp hw' => by rw [ha.eval]; exact hy l w hp hw'⟩) hS (by rw [hd]; exact h (hc.set hr) _ (ha.put hn v))
theorem PX_q {A : Value → Prop} {o : Oper} {dd : Nat} (i : Nat) (hi : ops[i]? = some o) (hk : okB ops listed i = true) (hw : Wanted n ops E o) (hd : o.dst = some dd) (hn : dd < n) (hm : ∀ l w, S (l.setIfInBounds i true) w → S l w) (hS : S (listed.setIfInBounds i true) W)
    (hy : ∃ p, A p ∧ ∀ W, Runs P E o W p W) (h : ∀ p, A p → PX P n ops Q S fuel (listed.setIfInBounds i true) (upd E dd p) W) : PX P n ops Q S (fuel + 1) listed E W := by
  obtain ⟨p, h1, h2⟩ := hy
  exact PX_v i hi hk hw hd hn hm hS (fun _ W _ _ => h2 W) (h p h1)
theorem PX_skip {o : Oper} {dd : Nat} (i : Nat) (hi : ops[i]? = some o) (hk : okB ops listed i = true) (hw : ∀ a, Ag n a E → Region.wanted o (yielded ops a.tmps) = false) (hd : o.dst = some dd) (hn : dd < n) (hm : ∀ l w, S (l.setIfInBounds i true) w → S l w) (hS : S (listed.setIfInBounds i true) W)
    (h : PX P n ops Q S fuel (listed.setIfInBounds i true) (upd E dd undef) W) : PX P n ops Q S (fuel + 1) listed E W := fun hc a ha => by
  simp only [okB, Bool.and_eq_true] at hk
  have hr : i ∈ Region.ready .any ops listed := by simpa using hk.2
  exact wpL_first hi (Region.noSelect_spec hk.1.1) (fun _ _ _ h => h) hm fuel listed a W (Region.free_spec hi hk.1.2) hc hr (.inr ⟨hw a ha, rfl⟩) hS (by rw [hd]; exact h (hc.set hr) _ (ha.put hn _))
theorem PX_no {o : Oper} {dd j t : Nat} {want : Bool} (i : Nat) (hi : ops[i]? = some o) (hk : okB ops listed i = true) (hg : o.guard = some (j, want)) (hj : (ops[j]?).bind (·.dst) = some t) (ht : t < n) (hE : E t = .bool (!want)) (hd : o.dst = some dd) (hn : dd < n)
    (hm : ∀ l w, S (l.setIfInBounds i true) w → S l w) (hS : S (listed.setIfInBounds i true) W) (h : PX P n ops Q S fuel (listed.setIfInBounds i true) (upd E dd undef) W) : PX P n ops Q S (fuel + 1) listed E W :=
  PX_skip i hi hk (fun a ha => by have hy := ha.yield hj ht hE; simp [Region.wanted, hg, hy]) hd hn hm hS h
theorem PX_e {o : Oper} {dd : Nat} (i : Nat) (hi : ops[i]? = some o) (hr : Region.ready .any ops listed = [i]) (hw : Wanted n ops E o) (hd : o.dst = some dd) (hn : dd < n)
    (h : Eff P E o W fun v W' => S (listed.setIfInBounds i true) W' ∧ PX P n ops Q S fuel (listed.setIfInBounds i true) (upd E dd v) W') : PX P n ops Q S (fuel + 1) listed E W := fun hc a ha => by
  have hmem : i ∈ Region.ready .any ops listed := by rw [hr]; simp
  refine ⟨fun h0 => (by rw [h0] at hr; cases hr), fun j hj => ?_⟩
  rw [hr] at hj
  obtain rfl := List.mem_singleton.1 hj
  unfold wpOp
  simp only [hi]
  rw [if_pos (hw.of ha)]
  refine .inl ?_
  unfold Oper.wp
  rw [ha.eval]
  rcases h with ⟨v, W', h1, h2⟩ | ⟨W', h1, h2⟩ | ⟨f, args, h1, h2⟩
  · rw [h1, Oper.upon_value]; exact ⟨h2.1, by rw [hd]; exact h2.2 (hc.set hmem) _ (ha.put hn v)⟩
  · rw [h1, Oper.upon_skip]; exact ⟨h2.1, by rw [hd]; exact h2.2 (hc.set hmem) _ (ha.put hn _)⟩
  · rw [h1, Oper.upon_enter]
    refine Calls.mono h2 ?_
    rintro e w' ⟨v, rfl, hl⟩
    exact ⟨hl.1, by simp only [hd]; exact hl.2 (hc.set hmem) _ (ha.put hn v)⟩
theorem PX_e0 {o : Oper} (i : Nat) (hi : ops[i]? = some o) (hr : Region.ready .any ops listed = [i]) (hw : Wanted n ops E o) (hd : o.dst = none)
    (h : Eff P E o W fun _ W' => S (listed.setIfInBounds i true) W' ∧ PX P n ops Q S fuel (listed.setIfInBounds i true) E W') : PX P n ops Q S (fuel + 1) listed E W := fun hc a ha => by
  have hmem : i ∈ Region.ready .any ops listed := by rw [hr]; simp
  refine ⟨fun h0 => (by rw [h0] at hr; cases hr), fun j hj => ?_⟩
  rw [hr] at hj
  obtain rfl := List.mem_singleton.1 hj
  unfold wpOp
  simp only [hi]
  rw [if_pos (hw.of ha)]
  refine .inl ?_
  unfold Oper.wp
  rw [ha.eval]
  rcases h with ⟨v, W', h1, h2⟩ | ⟨W', h1, h2⟩ | ⟨f, args, h1, h2⟩
  · rw [h1, Oper.upon_value, hd]; exact ⟨h2.1, h2.2 (hc.set hmem) _ (ha.put_none _)⟩
  · rw [h1, Oper.upon_skip, hd]; exact ⟨h2.1, h2.2 (hc.set hmem) _ (ha.put_none _)⟩
  · rw [h1, Oper.upon_enter]
    refine Calls.mono h2 ?_
    rintro e w' ⟨v, rfl, hl⟩
    simp only [hd]
    exact ⟨hl.1, hl.2 (hc.set hmem) _ (ha.put_none _)⟩
theorem PX_done (hr : Region.ready .any ops listed = []) (h : Q .normal E W) : PX P n ops Q S fuel listed E W := fun _ a ha => by
  cases fuel with
  | zero => exact ⟨hr, E, ha, h⟩
  | succ f => exact ⟨fun _ => ⟨E, ha, h⟩, fun i hi => by rw [hr] at hi; cases hi⟩
theorem ffl {p : Prop} {b : Bool} (hb : b = true) (h : b = false) : p := by rw [hb] at h; cases h
theorem PX_join {J : (Nat → Value) → World → Prop} (l' : Array Bool) (f' : Nat) (k : ∀ E W, J E W → PX P n ops Q S f' l' E W) (h : (∀ E W, J E W → PX P n ops Q S f' l' E W) → PX P n ops Q S fuel listed E W) : PX P n ops Q S fuel listed E W := h k
theorem PX_at {l' : Array Bool} (hl : listed = l') (h : PX P n ops Q S fuel l' E W) : PX P n ops Q S fuel listed E W := by rw [hl]; exact h
theorem LW_join {J : (Nat → Value) → World → Prop} {rest : List Oper} (m : Nat) (k : ∀ E W, J E W → LW P n ops Q (rest.drop m) E W) (h : (∀ E W, J E W → LW P n ops Q (rest.drop m) E W) → LW P n ops Q rest E W) : LW P n ops Q rest E W := h k
theorem til {l : Array Bool} {i j : Nat} {A : Prop} (hij : Nat.beq i j = false) (h : (l.setIfInBounds i true).getD j true = false → A) : l.getD j true = false → A := fun h0 => h (by
  rw [getD_set_ne true (fun e => by subst e; simp at hij)]; exact h0)
end
theorem IxR.at {α : Type} {e : TypeId} {enc : α → List Value} {k : Nat} {v : Value} {l : List α} {R : List (Nat × Obj)} (h : Row e enc k v l R) (hk : ∀ x, (enc x).length = k) {p : Value} {i : Nat} (hp : IxR R k p i) {x : α} (hl : l[i]? = some x) : At (memL R) p (enc x) := by
  obtain ⟨g', cur, cap, rfl, rfl, _, _, _, _, rfl, h5⟩ := ix_cells h hk hp hl
  exact ⟨g', i * k, cur, e, (0, 0), rfl, by simp [memL], h5⟩
theorem MapAt.form {κ β : Type} {kenc : κ → Value} {vf : β → Value} {μ : Mem} {v : Value} {l : List (κ × β)} (h : MapAt kenc vf μ v l) : ∃ r, v = .map r := by
  rcases h with ⟨h, _⟩ | ⟨m, es, clock, h, _⟩
  · exact ⟨_, h⟩
  · exact ⟨_, h⟩
section
variable {P : Program} {W : World} {E : Nat → Value} {d : Option Nat} {ty : TypeId} {pos : String} {af : Array Edge} {g : Option (Nat × Bool)}
theorem R_cbEqNil {tx tv : TypeId} {x y : Operand} {α β : Type} {fv : Value} {μ : Mem} {av : α → List Value} {rv : β → Value} {pm : α → Option β} {s u : Array TypeId} {bb : Bool} (ht : P.underlying tx = some (.func s u bb)) (h : CbOk P fv μ av rv pm) (hx : evE E x = fv) (hy : evE E y = .nilFunc) :
    Runs P E ⟨d, .binOp .eql tx x y tv, ty, pos, af, g⟩ W (.bool false) W := by
  obtain ⟨f, a, b, rfl⟩ := h.form
  exact R_funcEqNil ht hx hy
end
noncomputable def keysS {β : Type} (l : List (ByteArray × β)) : Option (List ByteArray) :=
  open Classical in if (l.map (·.1)).Nodup ∧ (∀ p ∈ l, p.1.size ≤ maxLen) ∧ l.length * 16 ≤ 140737488355328 then some (sortedS (l.map (·.1))) else none
theorem Vals.zip {κ γ : Type} {Q : Value → γ → List (Nat × Obj) → Prop} : ∀ {lv : List (κ × Value)} {l : List (κ × γ)} {R : List (Nat × Obj)}, Vals Q lv l R →
    ∃ ll : List (κ × (Value × γ)), ll.map (fun p => (p.1, p.2.1)) = lv ∧ ll.map (fun p => (p.1, p.2.2)) = l ∧ ∀ p ∈ ll, ∃ R1, Q p.2.1 p.2.2 R1 ∧ ∀ x ∈ R1, x ∈ R
  | [], [], R, _ => ⟨[], rfl, rfl, fun _ h => by cases h⟩
  | [], _ :: _, _, h => h.elim
  | _ :: _, [], _, h => h.elim
  | p :: lv, q :: l, R, h => by
    obtain ⟨h1, R1, R2, rfl, h3, h4⟩ := h
    obtain ⟨ll, e1, e2, e3⟩ := Vals.zip h4
    refine ⟨(q.1, (p.2, q.2)) :: ll, by simp [e1, ← h1], by simp [e2], fun x hx => ?_⟩
    rcases List.mem_cons.1 hx with rfl | hx
    · exact ⟨R1, h3, fun y hy => List.mem_append_left _ hy⟩
    · obtain ⟨R3, h5, h6⟩ := e3 x hx
      exact ⟨R3, h5, fun y hy => List.mem_append_right _ (h6 y hy)⟩
theorem DeepAt.zip {κ κ2 β : Type} {kenc : κ → Value} {kenc2 : κ2 → Value} {vf : β → Value} {μ : Mem} {v : Value} {l : List (κ × List (κ2 × β))} (h : DeepAt kenc (MapRow kenc2 vf) μ v l) :
    ∃ ll : List (κ × (Value × List (κ2 × β))), ll.map (fun p => (p.1, p.2.2)) = l ∧ MapAt kenc (fun x => x.1) μ v ll ∧ ∀ p ∈ ll, MapAt kenc2 vf μ p.2.1 p.2.2 := by
  obtain ⟨lv, R, ⟨Rm, Rv, rfl, ⟨m, es, clock, rfl, rfl, hM⟩, hV⟩, hR⟩ := h
  obtain ⟨ll, e1, e2, e3⟩ := hV.zip
  refine ⟨ll, e2, .inr ⟨m, es, clock, rfl, hR _ _ (by simp), ⟨?_, hM.born, hM.lt⟩⟩, fun p hp => ?_⟩
  · rw [hM.pairs, ← e1]; simp
  · obtain ⟨R1, h1, h2⟩ := e3 p hp
    exact h1.at (fun b o hb => hR b o (List.mem_append_right _ (h2 _ hb)))
def pairsB {κ κ2 β α : Type} (by_ : Nat) (mk : κ → κ2 → α) (l : List (κ × List (κ2 × β))) : Option (List α) :=
  if (l.flatMap (fun p => p.2.map (fun q => mk p.1 q.1))).length * by_ ≤ 140737488355328 ∧ (l.flatMap (fun p => p.2.map (fun q => mk p.1 q.1))).length ≤ maxLen then some (l.flatMap (fun p => p.2.map (fun q => mk p.1 q.1))) else none
theorem pairsB_some {κ κ2 β α : Type} {by_ : Nat} {mk : κ → κ2 → α} {l : List (κ × List (κ2 × β))} {fs : List α} (h : pairsB by_ mk l = some fs) : fs.length * by_ ≤ 140737488355328 ∧ fs.length ≤ maxLen ∧ l.flatMap (fun p => p.2.map (fun q => mk p.1 q.1)) = fs := by
  unfold pairsB at h
  split at h
  · rename_i hh; cases h; exact ⟨hh.1, hh.2, rfl⟩
  · cases h
theorem appB_of {α : Type} {by_ : Nat} {l m fs : List α} (h1 : fs.length * by_ ≤ 140737488355328) (h2 : fs.length ≤ maxLen) (h : (l ++ m).length ≤ fs.length) : appB by_ l m = some (l ++ m) := by
  rw [List.length_append] at h
  unfold appB
  rw [if_pos ⟨Nat.le_trans (Nat.mul_le_mul_right _ h) h1, Nat.le_trans h h2⟩]
end Go.Proofs.YtmlncblocfcmiaaGreat
namespace Go.Proofs.YtmlncblocfcmiaaGreat
open Go.RowKit
section
variable {P : Program} {n : Nat} {Q : Post} {E : Nat → Value} {W : World} {ops : Array Oper} {rest : List Oper}
variable {dd : Bool} {α : Type} {enc : α → List Value} {k : Nat} {μ : Mem} {v : Value}
variable {d : Option Nat} {ty : TypeId} {pos : String} {af : Array Edge} {g : Option (Nat × Bool)} {F : Nat → Prop} {w : World} {L : List (Nat × Obj)}
def SlR (enc : α → List Value) (k : Nat) : Rep (List α) := fun μ ys x => ∃ v, ys = [v] ∧ Sl (Pl enc) k μ v x
theorem SlR.mono (enc : α → List Value) (k : Nat) : MonoR (SlR enc k) := fun _ _ _ _ hs ⟨v, h1, h2⟩ => ⟨v, h1, h2.mono (Pl.mono _) hs⟩
inductive SlAll (enc : α → List Value) (k : Nat) (μ : Mem) : List Value → List (List α) → Prop
  | nil : SlAll enc k μ [] []
  | cons {v : Value} {x : List α} {vs : List Value} {l : List (List α)} : Sl (Pl enc) k μ v x → SlAll enc k μ vs l → SlAll enc k μ (v :: vs) (x :: l)
theorem SlAll.length {vs : List Value} {l : List (List α)} (h : SlAll enc k μ vs l) : vs.length = l.length := by
  induction h with
  | nil => rfl
  | cons _ _ ih => simp [ih]
theorem SlAll.get {vs : List Value} {l : List (List α)} (h : SlAll enc k μ vs l) : ∀ (i : Nat) (x : List α), l[i]? = some x → ∃ v, vs[i]? = some v ∧ Sl (Pl enc) k μ v x := by
  induction h with
  | nil => intro i x hx; simp at hx
  | cons h1 _ ih =>
    intro i x hx
    cases i with
    | zero => simp at hx; subst hx; exact ⟨_, rfl, h1⟩
    | succ i => simpa using ih i x (by simpa using hx)
theorem SlR.lit {b m : Nat} {vs : List Value} {e : TypeId} {l : List (List α)} (hm : l.length = m) (hM : m ≤ maxLen) (hb : μ b = some (.cells vs.toArray e (0, 0))) (h : SlAll enc k μ vs l) : Sl (SlR enc k) 1 μ (.slice (some ⟨b, 0, none⟩) m m) l := by
  subst hm
  refine ⟨_, _, rfl, Nat.le_refl _, hM, fun _ => ⟨b, 0, _, _, _, rfl, hb, fun i x hx => ?_⟩⟩
  obtain ⟨v, h1, h2⟩ := h.get i x hx
  refine ⟨[v], rfl, ⟨v, rfl, h2⟩, fun j y hy => ?_⟩
  cases j with
  | zero => simp at hy; subst hy; simpa using h1
  | succ j => simp at hy
theorem R_indexN {k2 : Nat} {t e : TypeId} {x ix : Operand} {ik : IntKind} {i : Int} {l : List (List α)} {x0 : List α}
    (ht : P.underlying t = some (.slice e)) (he : ∀ w, (sizeOf e).run P w = .ok 1 w) (hx : evE E x = v) (hi : evE E ix = .int ik i) (hs : Sl (SlR enc k2) 1 μ v l) (h0 : 0 ≤ i) (hl : l[i.toNat]? = some x0) :
    ∃ p, (∃ v0, At μ p [v0] ∧ Sl (Pl enc) k2 μ v0 x0) ∧ ∀ W, Runs P E ⟨d, .indexAddr t x ix, ty, pos, af, g⟩ W p W := by
  obtain ⟨p, ys, h1, ⟨v0, rfl, h2⟩, h3, h4⟩ := R_index (d := d) (ty := ty) (pos := pos) (af := af) (g := g) ht he hx hi hs h0 hl
  exact ⟨p, ⟨v0, h3, h2⟩, h4⟩
theorem R_max2 {x y : Operand} {ats : Array TypeId} {k : IntKind} {a b : Int} (hx : evE E x = .int k a) (hy : evE E y = .int k b) :
    Runs P E ⟨d, .call ⟨.builtin .max, #[x, y], ats⟩, ty, pos, af, g⟩ W (.int k (if b > a then b else a)) W := by
  show (do let d ← resolve (evE E) ⟨.builtin .max, #[x, y], ats⟩ ty; invoke d.target d.args : Sem Next).run P W = _
  simp [resolve, invoke, hx, hy, builtin, Builtin.max_, Builtin.max2]
end
end Go.Proofs.YtmlncblocfcmiaaGreat
namespace Go.Proofs.YtmlncblocfcmiaaGreat
open Go.RowKit
theorem chkP {p : Prop} [Decidable p] {u : Unit} (h : chk (decide p) = some u) : p := of_decide_eq_true (chk_true h)
section
variable {P : Program} {E : Nat → Value} {W : World} {d : Option Nat} {ty : TypeId} {pos : String} {af : Array Edge} {g : Option (Nat × Bool)}
  {F : Nat → Prop} {w : World} {μ : Mem} {L : List (Nat × Obj)} {α : Type} {e : TypeId} {enc : α → List Value} {k : Nat} {v : Value} {l : List α} {R : List (Nat × Obj)} {dd : Bool}
def delB {α : Type} (l : List α) (i j : Nat) : List α := l.take i ++ l.drop j ++ l.drop (l.length - (j - i))
theorem delB_length {α : Type} (l : List α) {i j : Nat} (hij : i ≤ j) (hj : j ≤ l.length) : (delB l i j).length = l.length := by
  simp [delB]; omega
theorem flat_drop (hk : ∀ x, (enc x).length = k) (l : List α) (i : Nat) (hi : i ≤ l.length) : (l.map enc).flatten.drop (i * k) = ((l.drop i).map enc).flatten := by
  have h1 : (l.map enc).flatten = ((l.take i).map enc).flatten ++ ((l.drop i).map enc).flatten := by rw [← List.flatten_append, ← List.map_append, List.take_append_drop]
  have h2 : ((l.take i).map enc).flatten.length = i * k := by rw [flat_length hk, List.length_take, Nat.min_eq_left hi]
  rw [h1, ← h2, List.drop_left]
theorem E_appendTail {K : Value → World → Prop} (X : List (Nat × Obj)) {Y : List (Nat × Obj)} {t : TypeId} {x y : Operand} {i j : Nat} {v1 u : Value} {ti : TypeInfo} (hST : ST dd F w W μ (X ++ (R ++ Y))) (h : Row e enc k v l R) (h1 : Row e enc k v1 (l.take i) R) (hk : ∀ x, (enc x).length = k) (hk0 : 0 < k) (hone : ∀ x, ∀ u ∈ enc x, u.oneCell' = true)
    (ht : P.underlying t = some (.slice e)) (hi : P.info? e = some ti) (hsz : ti.size = k) (hij : i ≤ j) (hj : j ≤ l.length) (hu : TailV k v j u) (hx : evE E x = v1) (hy : evE E y = u)
    (hK : ∀ W' v' R', ST dd F w W' μ (X ++ (R' ++ Y)) → Row e enc k v (delB l i j) R' → Row e enc k v' (l.take i ++ l.drop j) R' → K v' W') : Eff P E ⟨d, .call ⟨.builtin .append, #[x, y], #[t, t]⟩, ty, pos, af, g⟩ W K := by
  have hrun : ∀ (V : Value) (W' : World), (Builtin.append_ #[t, t] ty #[v1, u]).run P W = .ok V W' → (execOp (evE E) ⟨d, .call ⟨.builtin .append, #[x, y], #[t, t]⟩, ty, pos, af, g⟩).run P W = .ok (.value V) W' := by
    intro V W' hV
    show (do let d ← resolve (evE E) ⟨.builtin .append, #[x, y], #[t, t]⟩ ty; invoke d.target d.args : Sem Next).run P W = _
    simp [resolve, invoke, builtin, hx, hy, hV]
  obtain ⟨A, n, c, A', c', e1, rfl, h7, h8⟩ := hu
  rcases h with ⟨rfl, rfl, rfl⟩ | ⟨g', cap, cur, rfl, rfl, q1, q2, q3, q4⟩
  · cases e1
    have hv1 : v1 = .slice none 0 0 := by
      rcases h1 with ⟨h, _, _⟩ | ⟨_, _, _, _, h, _⟩
      · exact h
      · cases h
    subst hv1
    refine .inl ⟨_, W, hrun (.slice none 0 0) W ?_, hK W _ [] hST (by simpa [delB] using Row.nil e enc k) (by simpa using Row.nil e enc k)⟩
    cases A' <;> simp [Builtin.append_, run_underlying ht, sizeOf, typeInfo, hi, Builtin.lenOf, Builtin.firstCells, loadCells, loadCellsFrom]
  · cases e1
    obtain ⟨g1, cap1, cur1, rfl, eR, a1, a2, a3, a4⟩ : ∃ g1 cap1 cur1, v1 = .slice (some ⟨g1, 0, none⟩) (l.take i).length cap1 ∧ [(g', Obj.cells cur e (0, 0))] = [(g1, .cells cur1 e (0, 0))] ∧ (l.take i).length ≤ cap1 ∧ cap1 ≤ maxLen ∧ cur1.size = cap1 * k ∧ cur1.toList.take ((l.take i).length * k) = ((l.take i).map enc).flatten := by
      rcases h1 with ⟨_, _, h⟩ | h
      · cases h
      · exact h
    cases eR
    have hcap : cap1 = c := Nat.eq_of_mul_eq_mul_right hk0 (a3.symm.trans q3)
    subst hcap
    have hil : (l.take i).length = i := by rw [List.length_take]; omega
    rw [hil] at a1 a4 hrun
    have hb := (hST.box g' (.cells cur e (0, 0)) (by simp)).1
    by_cases hlt : j < l.length
    · obtain ⟨b, o, e2, rfl⟩ := h8 hlt
      cases e2
      have hnl : (((l.drop j).map enc).flatten).length = (l.length - j) * k := by rw [flat_length hk, List.length_drop]
      have e0 : cur.toList.length = cap1 * k := by simpa using q3
      have hlc : l.length * k ≤ cap1 * k := Nat.mul_le_mul_right _ q1
      have hjk : j * k ≤ l.length * k := Nat.mul_le_mul_right _ hj
      have hik : i * k ≤ j * k := Nat.mul_le_mul_right _ hij
      have hsub : (l.length - j) * k = l.length * k - j * k := Nat.sub_mul _ _ _
      have hdr : (cur.toList.take (l.length * k)).drop (j * k) = ((l.drop j).map enc).flatten := by rw [q4, flat_drop hk l j hj]
      have hnews : ∀ q u, (((l.drop j).map enc).flatten)[q]? = some u → W.cell? (Addr.add ⟨g', 0 + j * k, none⟩ q) = some u := by
        intro q u hq
        rw [Addr.add_lit, cell_of_row W g' (0 + j * k + q) cur e (0, 0) hb, Nat.zero_add]
        rw [← hdr, List.getElem?_drop] at hq
        have hlt' : j * k + q < l.length * k := by
          have := (List.getElem?_eq_some_iff.1 hq).1
          rw [List.length_take] at this
          omega
        rw [List.getElem?_take_of_lt hlt'] at hq
        simpa using hq
      have hone' : ∀ u ∈ ((l.drop j).map enc).flatten, u.oneCell' = true := by
        intro u hu
        obtain ⟨ys, hys, hu'⟩ := List.mem_flatten.1 hu
        obtain ⟨x, _, rfl⟩ := List.mem_map.1 hys
        exact hone x u hu'
      have hr := run_append_room (P := P) W t ty e ti ht hi g' i cap1 cur hb ⟨g', 0 + j * k, none⟩ (l.length - j) c' _ (by rw [hsz, hnl]) hnews hone' (by omega) (by rw [hsz, hnl]; simp only [Array.length_toList] at e0; omega)
      rw [hsz, hnl] at hr
      have hS := ST.store (A := X) (b := g') (cs := cur) (t := e) (B := Y) hST (cur.toList.take (i * k) ++ ((l.drop j).map enc).flatten ++ cur.toList.drop (i * k + (l.length - j) * k)).toArray
      have hfi : cur.toList.take (i * k) = ((l.take i).map enc).flatten := a4
      have hll : (cur.toList.take (i * k) ++ ((l.drop j).map enc).flatten).length = (i + (l.length - j)) * k := by rw [List.length_append, List.length_take, hnl, e0, Nat.min_eq_left (by omega), Nat.add_mul]
      have hsize : (cur.toList.take (i * k) ++ ((l.drop j).map enc).flatten ++ cur.toList.drop (i * k + (l.length - j) * k)).length = cap1 * k := by
        rw [List.length_append, hll, List.length_drop, e0, Nat.add_mul]; omega
      refine .inl ⟨_, _, hrun _ _ hr, hK _ _ [(g', .cells _ e (0, 0))] hS (.inr ⟨g', cap1, _, by rw [delB_length l hij hj], rfl, by rw [delB_length l hij hj]; exact q1, q2, by rw [List.size_toArray, hsize], ?_⟩) (.inr ⟨g', cap1, _, by rw [List.length_append, hil, List.length_drop], rfl, by rw [List.length_append, hil, List.length_drop]; omega, q2, by rw [List.size_toArray, hsize], ?_⟩)⟩
      · rw [delB_length l hij hj]
        show List.take (l.length * k) (cur.toList.take (i * k) ++ ((l.drop j).map enc).flatten ++ cur.toList.drop (i * k + (l.length - j) * k)) = _
        have hsplit : l.length * k = (i + (l.length - j)) * k + (j - i) * k := by rw [← Nat.add_mul]; congr 1; omega
        have hm : (l.length - (j - i)) * k = i * k + (l.length - j) * k := by rw [← Nat.add_mul]; congr 1; omega
        have hlast : (cur.toList.drop (i * k + (l.length - j) * k)).take ((j - i) * k) = ((l.drop (l.length - (j - i))).map enc).flatten := by
          rw [← hm, ← flat_drop hk l _ (by omega), ← q4, List.drop_take]
          congr 1
          rw [← Nat.sub_mul]; congr 1; omega
        rw [hsplit, List.take_append, hll, Nat.add_sub_cancel_left, List.take_of_length_le (by rw [hll]; omega), hlast, hfi]
        simp [delB, List.append_assoc]
      · rw [List.length_append, hil, List.length_drop]
        show List.take ((i + (l.length - j)) * k) (cur.toList.take (i * k) ++ ((l.drop j).map enc).flatten ++ cur.toList.drop (i * k + (l.length - j) * k)) = _
        rw [← hll, List.take_left, hfi]
        simp
    · have hjn : j = l.length := by omega
      subst hjn
      have hdel : delB l i l.length = l := by
        unfold delB
        rw [show l.length - (l.length - i) = i by omega, List.drop_length, List.append_nil, List.take_append_drop]
      refine .inl ⟨.slice (some ⟨g', 0, none⟩) i cap1, W, hrun _ W ?_, hK W _ _ hST (by rw [hdel]; exact .inr ⟨g', cap1, cur, rfl, rfl, q1, q2, q3, q4⟩) (.inr ⟨g', cap1, cur, by simp [hil], rfl, by simpa [hil] using a1, q2, q3, by simpa [hil] using a4⟩)⟩
      cases A' <;> simp [Builtin.append_, run_underlying ht, sizeOf, typeInfo, hi, Builtin.lenOf, Builtin.firstCells, loadCells, loadCellsFrom, storeCells, a1]
theorem R_sliceUp {l3 : List α} {v' : Value} {t : TypeId} {x il ih : Operand} {ik ik' : IntKind} {a b : Int} (ht : P.underlying t = some (.slice e)) (he : ∀ w, (sizeOf e).run P w = .ok k w) (hk0 : 0 < k) (h0 : Row e enc k v l R) (h1 : Row e enc k v' l3 R) (hx : evE E x = v') (hl : evE E il = .int ik a) (hh : evE E ih = .int ik' b)
    (ha : 0 ≤ a) (hab : a ≤ b) (hb : b = (l.length : Int)) (ha3 : a = (l3.length : Int)) : ∃ u, TailV k v a.toNat u ∧ ∀ W, Runs P E ⟨d, .slice t x (some il) (some ih) none, ty, pos, af, g⟩ W u W := by
  subst ha3; subst hb
  have hle : l3.length ≤ l.length := by omega
  rcases h0 with ⟨rfl, rfl, rfl⟩ | ⟨g', cap, cur, rfl, rfl, q1, q2, q3, q4⟩
  · have hv : v' = .slice none 0 0 ∧ l3 = [] := by
      rcases h1 with ⟨h, h', _⟩ | ⟨_, _, _, _, h, _⟩
      · exact ⟨h, h'⟩
      · cases h
    obtain ⟨rfl, rfl⟩ := hv
    refine ⟨.slice none 0 0, ⟨none, 0, 0, none, 0, rfl, rfl, Nat.le_refl _, fun h => absurd h (by simp)⟩, fun W => ?_⟩
    show (do pure (.value (← Instr.sliceAt t (evE E x) (some (evE E il)) (some (evE E ih)) none)) : Sem Next).run P W = _
    rw [hx, hl, hh]
    simp [Instr.sliceAt, Instr.slice, Instr.sliceBounds, Instr.sliceBound, asIntOf, run_underlying ht, he W]
  · rcases h1 with ⟨_, _, h⟩ | ⟨g1, cap1, cur1, rfl, eR, a1, a2, a3, a4⟩
    · cases h
    cases eR
    have hcap : cap1 = cap := Nat.eq_of_mul_eq_mul_right hk0 (a3.symm.trans q3)
    subst hcap
    refine ⟨.slice (some (if cap1 = l3.length then ⟨g', 0, none⟩ else (Addr.add ⟨g', 0, none⟩ (l3.length * k)))) (l.length - l3.length) (cap1 - l3.length), ⟨_, _, _, _, _, rfl, rfl, by simpa using hle, fun hlt => ⟨g', 0, rfl, ?_⟩⟩, fun W => ?_⟩
    · simp only [Int.toNat_natCast] at hlt ⊢
      rw [if_neg (by omega)]; simp [Addr.add_lit]
    · show (do pure (.value (← Instr.sliceAt t (evE E x) (some (evE E il)) (some (evE E ih)) none)) : Sem Next).run P W = _
      rw [hx, hl, hh]
      have hb1 : (l3.length : Int) ≤ (l.length : Int) ∧ (l.length : Int) ≤ (cap1 : Int) := ⟨by omega, by omega⟩
      simp [Instr.sliceAt, Instr.slice, Instr.sliceBounds, Instr.sliceBound, asIntOf, run_underlying ht, he W, hb1, hle, q1]
      split <;> rfl
theorem R_slice3 {t : TypeId} {x il ih im : Operand} {ik ik' ik2 : IntKind} {a b m : Int} (ht : P.underlying t = some (.slice e)) (he : ∀ w, (sizeOf e).run P w = .ok k w) (h0 : Row e enc k v l R) (hx : evE E x = v) (hl : evE E il = .int ik a) (hh : evE E ih = .int ik' b) (hm : evE E im = .int ik2 m)
    (ha : 0 ≤ a) (hab : a ≤ b) (hb : b ≤ m) (hml : m ≤ (l.length : Int)) : ∃ u, True ∧ ∀ W, Runs P E ⟨d, .slice t x (some il) (some ih) (some im), ty, pos, af, g⟩ W u W := by
  obtain ⟨a, rfl⟩ : ∃ n : Nat, a = (n : Int) := ⟨a.toNat, by omega⟩
  obtain ⟨b, rfl⟩ : ∃ n : Nat, b = (n : Int) := ⟨b.toNat, by omega⟩
  obtain ⟨m, rfl⟩ : ∃ n : Nat, m = (n : Int) := ⟨m.toNat, by omega⟩
  have e1 : a ≤ b := by omega
  have e2 : b ≤ m := by omega
  rcases h0 with ⟨rfl, rfl, rfl⟩ | ⟨g', cap, cur, rfl, rfl, q1, q2, q3, q4⟩
  · have e3 : m = 0 := by simp at hml; omega
    subst e3
    have e4 : b = 0 := by omega
    subst e4
    have e5 : a = 0 := by omega
    subst e5
    refine ⟨.slice none 0 0, trivial, fun W => ?_⟩
    show (do pure (.value (← Instr.sliceAt t (evE E x) (some (evE E il)) (some (evE E ih)) (some (evE E im)))) : Sem Next).run P W = _
    rw [hx, hl, hh, hm]
    simp [Instr.sliceAt, Instr.slice, Instr.sliceBounds, Instr.sliceBound, asIntOf, run_underlying ht, he W]
  · have e3 : m ≤ cap := by omega
    refine ⟨.slice (if m = a then some ⟨g', 0, none⟩ else some (Addr.add ⟨g', 0, none⟩ (a * k))) (b - a) (m - a), trivial, fun W => ?_⟩
    show (do pure (.value (← Instr.sliceAt t (evE E x) (some (evE E il)) (some (evE E ih)) (some (evE E im)))) : Sem Next).run P W = _
    rw [hx, hl, hh, hm]
    simp [Instr.sliceAt, Instr.slice, Instr.sliceBounds, Instr.sliceBound, asIntOf, run_underlying ht, he W, e1, e2, e3]
theorem Row.keep {l' l3 : List α} {v' : Value} {R2 : List (Nat × Obj)} (hk0 : 0 < k) (hk : ∀ x, (enc x).length = k) (h0 : Row e enc k v l R) (h1 : Row e enc k v' l3 R) (h2 : Row e enc k v l' R2) (hl : l3.length ≤ l'.length) : Row e enc k v' (l'.take l3.length) R2 := by
  rcases h0 with ⟨rfl, rfl, rfl⟩ | ⟨g', cap, cur, rfl, rfl, q1, q2, q3, q4⟩
  · rcases h1 with ⟨rfl, rfl, _⟩ | ⟨_, _, _, _, h, _⟩
    · rcases h2 with ⟨_, rfl, rfl⟩ | ⟨_, _, _, h, _⟩
      · exact Row.nil e enc k
      · cases h
    · cases h
  · rcases h1 with ⟨_, _, h⟩ | ⟨g1, cap1, cur1, rfl, eR, a1, a2, a3, a4⟩
    · cases h
    cases eR
    have hcap : cap1 = cap := Nat.eq_of_mul_eq_mul_right hk0 (a3.symm.trans q3)
    subst hcap
    rcases h2 with ⟨h, _⟩ | ⟨g2, cap2, cur2, h, rfl, b1, b2, b3, b4⟩
    · cases h
    · simp only [Value.slice.injEq, Option.some.injEq, Addr.mk.injEq] at h
      obtain ⟨⟨rfl, _, _⟩, h5, rfl⟩ := h
      have e1 : (l'.take l3.length).length = l3.length := by rw [List.length_take]; omega
      refine .inr ⟨g', cap1, cur2, by rw [e1], rfl, by rw [e1]; exact a1, b2, b3, ?_⟩
      rw [e1, flat_take hk l' l3.length hl, ← b4, List.take_take, Nat.min_eq_left (Nat.mul_le_mul_right _ hl)]
end
end Go.Proofs.YtmlncblocfcmiaaGreat
namespace Go.Proofs.YtmlncblocfcmiaaGreat
open Go.RowKit
variable {dd : Bool}
section
variable {κ α : Type} {beq : κ → κ → Bool} {kenc : κ → Value} {t : TypeId} {enc : α → List Value}
variable {P : Program} {W : World} {kt : TypeId} {E : Nat → Value} {d : Option Nat} {ty : TypeId} {pos : String} {af : Array Edge} {g : Option (Nat × Bool)} {F : Nat → Prop} {w : World} {μ : Mem} {L : List (Nat × Obj)}
theorem mget_isSome {γ δ : Type} {l : List (κ × γ)} {m : List (κ × δ)} {k : κ} (h : l.findIdx? (fun p => beq k p.1) = m.findIdx? (fun p => beq k p.1)) : (mget beq l k).isSome = (mget beq m k).isSome := by
  rw [mget_idx, mget_idx, h]
  cases hi : m.findIdx? (fun p => beq k p.1) with
  | none => rfl
  | some i =>
    obtain ⟨p, hp, _⟩ := findIdx_lt hi
    rw [hi] at h
    obtain ⟨q, hq, _⟩ := findIdx_lt h
    simp [hp, hq]
theorem R_lookupOkDeep {γ : Type} {Q : Value → γ → List (Nat × Obj) → Prop} {t e : TypeId} {m x : Operand} {mv z : Value} {lv : List (κ × Value)} {l : List (κ × γ)} {R : List (Nat × Obj)} {k : κ} (K : KeyLaw P kt kenc beq) (ht : P.underlying t = some (.map kt e)) (hz : ∀ w, (zeroValue e).run P w = .ok z w)
    (hm : evE E m = mv) (hx : evE E x = kenc k) (hM : DeepV kenc Q mv lv l R) (hR : ∀ b o, (b, o) ∈ R → W.heap[b]? = some o) : Runs P E ⟨d, .lookup t m x true, ty, pos, af, g⟩ W (.tuple #[valAt beq lv k z, .bool (mget beq l k).isSome]) W := by
  obtain ⟨Rm, Rv, rfl, h2, h3⟩ := hM
  have h4 := R_lookupOk (d := d) (ty := ty) (pos := pos) (af := af) (g := g) K ht hz hm hx (h2.at (μ := hp W) (fun b o h => hR b o (List.mem_append_left _ h)))
  rw [mget_isSome (h3.find k)] at h4
  exact h4
end
section
variable {P : Program} {fn : Func} {R : Ending → World → Prop} {E : Nat → Value} {W : World}
theorem retQ_ct {r0 : Tmp} {t0 : TypeId} {a0 : Addr} {v0 : Value} {r1 : Tmp} {v1 : Value} (hr : fn.results = #[.cell r0 t0, .tmp r1]) (h0 : E r0 = .pointer (some a0)) (l0 : (Instr.loadAt t0 (.pointer (some a0))).run P W = .ok v0 W) (h1 : E r1 = v1) (h : R (.returned (.tuple #[v0, v1])) W) : retQ P fn R .ret E W :=
  ⟨.tuple #[v0, v1], fun tmps ht => by
    have q0 : (loadVar t0 a0).run P W = .ok v0 W := by simpa [Instr.loadAt, Instr.sureAddr] using l0
    simp [results, hr, ht, asAddr, h0, q0, h1], h⟩
end
end Go.Proofs.YtmlncblocfcmiaaGreat
