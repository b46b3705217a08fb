/- a part of a proof of StuckTells -/
import Derived.WalkKit
import Derived.WalkLawsBesides
import Derived.Maps.AppendAt
import Derived.OrdersHeld
import Derived.Laws.IdiomStrings
import Derived.Maps.RangeRun
import Derived.Lib.BytesEntry
import Derived.Lib.Bytealg
import Derived.Laws.Externs
import Derived.ChangeKeysEq
import Derived.Deep.AppendSrc
import Derived.Laws.MakeOwn
set_option linter.all false
namespace Go.Proofs.YtmlncblocfcmiaaGreat
open Go.RowKit
def gB (E : Nat → Value) (d : Nat) (v : Value) : Nat → Value := fun t => if t = d then v else E t
def aS (E : Nat → Value) : Operand → Value
  | .tmp t => E t
  | .const v => v
  | .global g => .pointer (some ⟨g, 0, none⟩)
  | .func f => .func (.func f) #[] #[]
def Ag (n : Nat) (a : Act) (E : Nat → Value) : Prop := a.tmps.size = n ∧ a.defers = [] ∧ ∀ t, a.tmps.getD t undef = E t
section
variable {n : Nat} {a : Act} {E : Nat → Value}
theorem Ag.eval (h : Ag n a E) : a.eval = aS E := by
  funext x
  cases x with
  | tmp t => exact h.2.2 t
  | const v => rfl
  | global g => rfl
  | func f => rfl
theorem Ag.put (h : Ag n a E) {d : Nat} (i : d < n) (v : Value) : Ag n (a.put (some d) v) (gB E d v) := by
  refine ⟨by simp [Act.put, h.1], h.2.1, fun t => ?_⟩
  have g := h.2.2 t
  simp only [Act.put, gB]
  by_cases b : t = d
  · subst b
    simp [h.1, i]
  · have : ¬ d = t := fun e => b e.symm
    rw [if_neg b, ← g]
    simp [Array.getD_eq_getD_getElem?, this]
theorem Ag.sS (h : Ag n a E) (v : Value) : Ag n (a.put none v) E := h
theorem Ag.yield (h : Ag n a E) {ops : Array Oper} {j t : Nat} {b : Bool} (g : (ops[j]?).bind (·.dst) = some t) (k : t < n) (l : E t = .bool b) : yielded ops a.tmps j = some b := by
  have d := h.2.2 t
  have i : a.tmps[t]? = some (E t) := by
    rw [← d]
    simp [Array.getD_eq_getD_getElem?, h.1, k]
  simp [yielded, g, i, l]
end
abbrev ko := Exit → (Nat → Value) → World → Prop
def lift (n : Nat) (Q : ko) : Exit → Act → World → Prop
  | .panic _, _, _ => False
  | .outgrown, _, _ => False
  | e, a, w => ∃ E, Ag n a E ∧ Q e E w
def CW (P : Program) (n : Nat) (c : Code) (Q : ko) (E : Nat → Value) (W : World) : Prop := ∀ a, Ag n a E → c.wp P (lift n Q) a W
def LW (P : Program) (n : Nat) (ops : Array Oper) (Q : ko) (l : List Oper) (E : Nat → Value) (W : World) : Prop := ∀ a, Ag n a E → wpList P ops (lift n Q) l a W
def kc (K : (Nat → Value) → World → Prop) (Q : ko) : ko
  | .normal, E, W => K E W
  | e, E, W => Q e E W
def pS (id : Nat) (Q : ko) : ko
  | .exit j, E, W => if j = id then Q .normal E W else Q (.exit j) E W
  | e, E, W => Q e E W
section
variable {P : Program} {n : Nat} {Q : ko} {E : Nat → Value} {W : World} {c x y : Code} {ops : Array Oper} {rest : List Oper} {o : Oper}
theorem Ca {Q' : ko} (h : CW P n c Q E W) (g : ∀ e E W, Q e E W → Q' e E W) : CW P n c Q' E W := fun a ha =>
  wp_mono (h a ha) (fun e _ _ h => by
    cases e with
    | panic c => exact h
    | outgrown => exact h
    | _ => obtain ⟨E', b, d⟩ := h; exact ⟨E', b, g _ _ _ d⟩)
theorem aW (h : CW P n x (kc (fun E W => CW P n y Q E W) Q) E W) : CW P n (.seq x y) Q E W := fun a ha =>
  wp_seq (wp_mono (h a ha) (fun e d i h => by
    cases e with
    | normal => obtain ⟨E', b, g⟩ := h; exact g d b
    | _ => exact h))
theorem cZ (h : Q .normal E W) : CW P n .skip Q E W := fun _ ha => wp_skip ⟨E, ha, h⟩
theorem bH (h : Q .ret E W) : CW P n .ret Q E W := fun _ ha => wp_ret ⟨E, ha, h⟩
theorem fI {id : Nat} (h : Q (.exit id) E W) : CW P n (.exit id) Q E W := fun _ ha => wp_exit ⟨E, ha, h⟩
theorem dN {id : Nat} (h : CW P n c (pS id Q) E W) : CW P n (.block id c) Q E W := fun a ha =>
  wp_block (wp_mono (h a ha) (fun e i k h => by
    cases e with
    | exit j =>
      obtain ⟨E', b, d⟩ := h
      simp only [Exit.inBlock]
      simp only [pS] at d
      split at d
      · rename_i g; rw [if_pos g]; exact ⟨E', b, d⟩
      · rename_i g; rw [if_neg g]; exact ⟨E', b, d⟩
    | _ => exact h))
theorem Gw {co : Operand} {b : Bool} (d : aS E co = .bool b) (i : b = true → CW P n x Q E W) (g : b = false → CW P n y Q E W) : CW P n (.cond co x y) Q E W := fun a ha => by
  refine wp_cond_split (t := b) (by rw [ha.eval]; exact d) (fun h => i h a ha) (fun h => g h a ha)
theorem qh {co : Operand} (a : aS E co = .bool true) (h : CW P n x Q E W) : CW P n (.cond co x y) Q E W := Gw a (fun _ => h) (fun h => by cases h)
theorem lI {co : Operand} (a : aS E co = .bool false) (h : CW P n y Q E W) : CW P n (.cond co x y) Q E W := Gw a (fun h => by cases h) (fun _ => h)
theorem aU {id : Nat} {l : List Oper} (h : LW P n l.toArray Q l E W) : CW P n (.region id l.toArray false) Q E W := fun a ha => wp_region_lit (h a ha)
theorem bK (h : Q .normal E W) : LW P n ops Q [] E W := fun _ ha => wpList_nil ⟨E, ha, h⟩
theorem Du {P : Program} {c : Code} {Q : Exit → Act → World → Prop} {a : Act} {w : World} (I : Nat → Act → World → Prop) (m : Nat) (u : I m a w) (round : ∀ m a w, I m a w → c.wp P (Exit.then (fun q r => ∃ y, y < m ∧ I y q r) Q) a w) : (Code.loop c).wp P Q a w := by
  intro b k cs
  have key : ∀ m a w, I m a w → ∃ e q r, Q e q r ∧ Arrives P (lone (b.at a (.code c :: .inLoop c :: k)) cs w) b k cs e q r := by
    intro m
    induction m using Nat.strongRecOn with
    | _ m ih =>
      intro a w A
      obtain ⟨e, g, h, j, d⟩ := round m a w A b (.inLoop c :: k) cs
      cases e with
      | normal =>
        obtain ⟨y, z, n⟩ := j
        obtain ⟨t, s, v, p, i⟩ := ih y z g h n
        exact ⟨t, s, v, p, .of_steps (Steps.trans d (.one step_inLoop)) i⟩
      | exit id => exact ⟨_, g, h, j, .pass (x := .inLoop c) rfl (fun _ _ => .inl (by simp)) d⟩
      | goto l => exact ⟨_, g, h, j, .pass (x := .inLoop c) rfl (fun _ _ => .inl (by simp)) d⟩
      | ret => exact ⟨_, g, h, j, .pass (x := .inLoop c) rfl (fun _ _ => .inl (by simp)) d⟩
      | panic D => exact ⟨_, g, h, j, .pass (x := .inLoop c) rfl (fun _ _ => .inl (by simp)) d⟩
      | outgrown => exact ⟨_, g, h, j, .pass (x := .inLoop c) rfl (fun _ _ => .inl (by simp)) d⟩
  obtain ⟨e, q, r, j, d⟩ := key m a w u
  exact ⟨e, q, r, j, .of_steps (.one step_loop) d⟩
theorem fB (I : Nat → (Nat → Value) → World → Prop) (m : Nat) (b : I m E W) (round : ∀ m E W, I m E W → CW P n c (kc (fun E' W' => ∃ d, d < m ∧ I d E' W') Q) E W) : CW P n (.loop c) Q E W := fun a ha =>
  Du (fun m a w => ∃ E, Ag n a E ∧ I m E w) m ⟨E, ha, b⟩ (fun m a w ⟨E, ha, k⟩ =>
    wp_mono (round m E w k a ha) (fun e l p h => by
      cases e with
      | normal => obtain ⟨E', i, d, j, g⟩ := h; exact ⟨d, j, E', i, g⟩
      | _ => exact h))
def mD (n : Nat) (ops : Array Oper) (E : Nat → Value) (o : Oper) : Prop :=
  o.guard = none ∨ ∃ j want t, o.guard = some (j, want) ∧ (ops[j]?).bind (·.dst) = some t ∧ t < n ∧ E t = .bool want
theorem mD.of {a : Act} (h : mD n ops E o) (ha : Ag n a E) : Region.wanted o (yielded ops a.tmps) = true := by
  rcases h with h | ⟨j, want, t, d, g, i, b⟩
  · simp [Region.wanted, h]
  · simp [Region.wanted, d, ha.yield g i b]
theorem HW {d : Nat} {v : Value} {W' : World} (hw : mD n ops E o) (b : o.dst = some d) (g : d < n) (i : (execOp (aS E) o).run P W = .ok (.value v) W') (h : LW P n ops Q rest (gB E d v) W') : LW P n ops Q (o :: rest) E W := fun a ha => by
  unfold wpList
  rw [if_pos (hw.of ha)]
  refine .inl ?_
  unfold Oper.wp
  rw [ha.eval, i, Oper.upon_value, b]
  exact h _ (ha.put g v)
theorem Jc {W' : World} (hw : mD n ops E o) (b : o.dst = none) (d : (execOp (aS E) o).run P W = .ok .skip W') (h : LW P n ops Q rest E W') : LW P n ops Q (o :: rest) E W := fun a ha => by
  unfold wpList
  rw [if_pos (hw.of ha)]
  refine .inl ?_
  unfold Oper.wp
  rw [ha.eval, d, Oper.upon_skip, b]
  exact h _ (ha.sS _)
theorem IP {f : FuncId} {args : Array Value} {d : Nat} (hw : mD n ops E o) (g : o.dst = some d) (j : d < n) (k : (execOp (aS E) o).run P W = .ok (.enter f args) W) (h : Calls P f args W fun e b => ∃ v, e = .returned v ∧ LW P n ops Q rest (gB E d v) b) : LW P n ops Q (o :: rest) E W := fun a ha => by
  unfold wpList
  rw [if_pos (hw.of ha)]
  refine .inl ?_
  unfold Oper.wp
  rw [ha.eval, k, Oper.upon_enter]
  refine h.mono ?_
  rintro e b ⟨v, rfl, i⟩
  simp only [g]
  exact i _ (ha.put j v)
theorem LV {d j t : Nat} {want : Bool} (g : o.dst = some d) (l : d < n) (i : o.guard = some (j, want)) (k : (ops[j]?).bind (·.dst) = some t) (m : t < n) (b : E t = .bool (!want)) (h : LW P n ops Q rest (gB E d undef) W) : LW P n ops Q (o :: rest) E W := fun a ha => by
  unfold wpList
  have p := ha.yield k m b
  rw [if_neg (by simp [Region.wanted, i, p])]
  rw [g]
  exact h _ (ha.put l _)
end
end Go.Proofs.YtmlncblocfcmiaaGreat
namespace Go.Proofs.YtmlncblocfcmiaaGreat
open Go.RowKit
variable {dd : Bool}
abbrev bW := Nat → Option Obj
def hp (W : World) : bW := fun b => W.heap[b]?
def nw (dd : Bool) (a b : Nat) : Prop := dd = true → a ≤ b
theorem nw.of {dd : Bool} {a b : Nat} (h : a ≤ b) : nw dd a b := fun _ => h
theorem nw.trans {dd : Bool} {a b c : Nat} (h : nw dd a b) (k : nw dd b c) : nw dd a c := fun e => Nat.le_trans (h e) (k e)
structure Ex (dd : Bool) (w W : World) : Prop where
  os : W.os = w.os
  tape : W.tape = w.tape
  output : W.output = w.output
  drawn : nw dd w.drawn W.drawn
  size : w.heap.size ≤ W.heap.size
  eP : ∀ b, b < w.heap.size → W.heap[b]? = w.heap[b]?
theorem Ex.refl (w : World) : Ex dd w w := ⟨rfl, rfl, rfl, nw.of (Nat.le_refl _), Nat.le_refl _, fun _ _ => rfl⟩
theorem Ex.trans {a b c : World} (h : Ex dd a b) (k : Ex dd b c) : Ex dd a c :=
  ⟨k.os.trans h.os, k.tape.trans h.tape, k.output.trans h.output, nw.trans h.drawn k.drawn, Nat.le_trans h.size k.size, fun i d => (k.eP i (Nat.lt_of_lt_of_le d h.size)).trans (h.eP i d)⟩
theorem Ex.drew (w : World) : Ex dd w w.drew := ⟨rfl, rfl, rfl, nw.of (Nat.le_succ _), Nat.le_refl _, fun _ _ => rfl⟩
theorem Ex.alloc (w : World) (o : Obj) : Ex dd w (w.alloc o) := ⟨rfl, rfl, rfl, nw.of (Nat.le_refl _), by show w.heap.size ≤ (w.heap.push o).size; simp, fun k hk => Below.heap_alloc w o k hk⟩
theorem Ex.dK {w W : World} (h : Ex true w W) : Ex dd w W := ⟨h.os, h.tape, h.output, nw.of (h.drawn rfl), h.size, h.eP⟩
def bO (μ μ' : bW) : Prop := ∀ b o, μ b = some o → μ' b = some o
theorem bO.refl (μ : bW) : bO μ μ := fun _ _ h => h
theorem bO.trans {a b c : bW} (h : bO a b) (k : bO b c) : bO a c := fun x o d => k x o (h x o d)
structure ST (dd : Bool) (F : Nat → Prop) (w W : World) (μ : bW) (L : List (Nat × Obj)) : Prop where
  os : W.os = w.os
  tape : W.tape = w.tape
  output : W.output = w.output
  drawn : nw dd w.drawn W.drawn
  size : w.heap.size ≤ W.heap.size
  eP : ∀ b, b < w.heap.size → ¬ F b → W.heap[b]? = w.heap[b]?
  mem : ∀ b o, μ b = some o → W.heap[b]? = some o
  box : ∀ b o, (b, o) ∈ L → W.heap[b]? = some o ∧ μ b = none ∧ (w.heap.size ≤ b ∨ F b)
  nd : (L.map (·.1)).Nodup
def cA : Nat → Prop := fun _ => False
theorem ST.start (w : World) : ST dd cA w w (hp w) [] :=
  ⟨rfl, rfl, rfl, nw.of (Nat.le_refl _), Nat.le_refl _, fun _ _ _ => rfl, fun _ _ h => h, fun _ _ h => (by cases h), by simp⟩
section
variable {F : Nat → Prop} {w W W' : World} {μ μ' : bW} {L L' : List (Nat × Obj)}
theorem ST.ex (h : ST dd cA w W μ L) : Ex dd w W := ⟨h.os, h.tape, h.output, h.drawn, h.size, fun b a => h.eP b a (fun x => x)⟩
theorem Ix (W : World) (o : Obj) : (W.alloc o).heap[W.heap.size]? = some o := heap_alloc_new W o
theorem gD {W : World} {b : Nat} {o : Obj} (h : W.heap[b]? = some o) : b < W.heap.size := (Array.getElem?_eq_some_iff.1 h).1
theorem ST.drew (h : ST dd F w W μ L) : ST dd F w W.drew μ L :=
  ⟨h.os, h.tape, h.output, nw.trans h.drawn (nw.of (Nat.le_succ _)), h.size, h.eP, h.mem, h.box, h.nd⟩
theorem ST.BS (h : ST dd F w W μ L) {b : Nat} {o : Obj} (a : (b, o) ∈ L) : b < W.heap.size := gD (h.box b o a).1
theorem ST.alloc (h : ST dd F w W μ L) (o : Obj) : ST dd F w (W.alloc o) μ ((W.heap.size, o) :: L) := by
  refine ⟨h.os, h.tape, h.output, h.drawn, Nat.le_trans h.size (Ex.alloc (dd := true) W o).size, fun b a j => ?_, fun b d a => ?_, fun b d a => ?_, ?_⟩
  · rw [(Ex.alloc (dd := true) W o).eP b (Nat.lt_of_lt_of_le a h.size)]; exact h.eP b a j
  · have := h.mem b d a
    rw [(Ex.alloc (dd := true) W o).eP b (gD this)]; exact this
  · rcases List.mem_cons.1 a with e | a
    · cases e
      refine ⟨Ix W o, ?_, .inl h.size⟩
      cases hm : μ W.heap.size with
      | none => rfl
      | some x => have := gD (h.mem _ _ hm); omega
    · obtain ⟨h1, g, i⟩ := h.box b d a
      exact ⟨by rw [(Ex.alloc (dd := true) W o).eP b (gD h1)]; exact h1, g, i⟩
  · simp only [List.map_cons, List.nodup_cons]
    refine ⟨fun hm => ?_, h.nd⟩
    obtain ⟨⟨b, d⟩, a, e⟩ := List.mem_map.1 hm
    have := h.BS a
    simp at e
    omega
theorem ST.put {A B : List (Nat × Obj)} {b : Nat} {o n : Obj} (h : ST dd F w W μ (A ++ (b, o) :: B)) (t : W'.os = W.os ∧ W'.tape = W.tape ∧ W'.output = W.output ∧ W.drawn ≤ W'.drawn ∧ W'.heap.size = W.heap.size) (g : ∀ k, k ≠ b → W'.heap[k]? = W.heap[k]?) (u : W'.heap[b]? = some n) : ST dd F w W' μ (A ++ (b, n) :: B) := by
  obtain ⟨h1, p, q, r, s⟩ := t
  have d := h.box b o (by simp)
  have a := h.nd
  simp only [List.map_append, List.map_cons] at a
  have i : ∀ x o, (x, o) ∈ A → x ≠ b := fun x o l e => by
    subst e
    have := (List.nodup_append.1 a).2.2 x (List.mem_map.2 ⟨_, l, rfl⟩) x (by simp)
    exact this rfl
  have j : ∀ x o, (x, o) ∈ B → x ≠ b := fun x o l e => by
    subst e
    have := (List.nodup_cons.1 (List.nodup_append.1 a).2.1).1
    exact this (List.mem_map.2 ⟨_, l, rfl⟩)
  refine ⟨h1.trans h.os, p.trans h.tape, q.trans h.output, nw.trans h.drawn (nw.of r), by rw [s]; exact h.size, fun k hk m => ?_, fun k x hk => ?_, fun k x hk => ?_, by simpa using a⟩
  · rw [g k (fun e => by subst e; rcases d.2.2 with h | h; omega; exact m h)]
    exact h.eP k hk m
  · rw [g k (fun e => by subst e; rw [d.2.1] at hk; cases hk)]
    exact h.mem k x hk
  · rcases List.mem_append.1 hk with hk | hk
    · rw [g k (i k x hk)]; exact h.box k x (by simp [hk])
    · rcases List.mem_cons.1 hk with e | hk
      · cases e; exact ⟨u, d.2⟩
      · rw [g k (j k x hk)]; exact h.box k x (by simp [hk])
def Lo (F : Nat → Prop) (w : World) (μ μ' : bW) : Prop := ∀ b, b < w.heap.size → ¬ F b → μ' b = μ b
theorem Lo.refl {F : Nat → Prop} {w : World} {μ : bW} : Lo F w μ μ := fun _ _ _ => rfl
theorem Lo.trans {F : Nat → Prop} {w : World} {a b c : bW} (h : Lo F w a b) (k : Lo F w b c) : Lo F w a c := fun x g d => (k x g d).trans (h x g d)
def grow (μ : bW) (W W' : World) : bW := fun b => if b < W.heap.size then μ b else W'.heap[b]?
theorem ST.zA (h : ST dd F w W μ L) {b : Nat} {o : Obj} (a : μ b = some o) : b < W.heap.size := gD (h.mem b o a)
theorem ST.call (h : ST dd F w W μ L) (d : Ex dd W W') : ST dd F w W' (grow μ W W') L := by
  refine ⟨d.os.trans h.os, d.tape.trans h.tape, d.output.trans h.output, nw.trans h.drawn d.drawn, Nat.le_trans h.size d.size, fun b a k => ?_, fun b o a => ?_, fun b o a => ?_, h.nd⟩
  · rw [d.eP b (Nat.lt_of_lt_of_le a h.size)]; exact h.eP b a k
  · unfold grow at a
    split at a
    · rename_i g; rw [d.eP b g]; exact h.mem b o a
    · exact a
  · obtain ⟨h1, i, j⟩ := h.box b o a
    exact ⟨by rw [d.eP b (gD h1)]; exact h1, by unfold grow; rw [if_pos (gD h1)]; exact i, j⟩
theorem ST.Ih (h : ST dd F w W μ L) (W' : World) : bO μ (grow μ W W') := fun b o a => by
  unfold grow; rw [if_pos (h.zA a)]; exact a
theorem ST.dK (h : ST dd F w W μ' L) (d : bO μ μ') : ST dd F w W μ L :=
  ⟨h.os, h.tape, h.output, h.drawn, h.size, h.eP, fun b o a => h.mem b o (d b o a), fun b o a => by
    obtain ⟨h1, g, i⟩ := h.box b o a
    refine ⟨h1, ?_, i⟩
    cases hm : μ b with
    | none => rfl
    | some x => (have := d b x hm; rw [g] at this; cases this), h.nd⟩
theorem ST.DO (h : ST dd F w W μ L) (a : Ex dd W W') : ST dd F w W' μ L := (h.call a).dK (h.Ih W')
theorem ST.aP (h : ST dd F w W μ L) : bO μ (hp W) := h.mem
def FE (μ : bW) (b : Nat) (o : Obj) : bW := fun k => if k = b then some o else μ k
theorem ST.Cs {A B : List (Nat × Obj)} {b : Nat} {o : Obj} (h : ST dd F w W μ (A ++ (b, o) :: B)) : ST dd F w W (FE μ b o) (A ++ B) := by
  have g := h.box b o (by simp)
  have a := h.nd
  simp only [List.map_append, List.map_cons] at a
  have j : ∀ x y, (x, y) ∈ A ++ B → x ≠ b := fun x y d e => by
    subst e
    rcases List.mem_append.1 d with d | d
    · exact (List.nodup_append.1 a).2.2 x (List.mem_map.2 ⟨_, d, rfl⟩) x (by simp) rfl
    · exact (List.nodup_cons.1 (List.nodup_append.1 a).2.1).1 (List.mem_map.2 ⟨_, d, rfl⟩)
  refine ⟨h.os, h.tape, h.output, h.drawn, h.size, h.eP, fun k x hk => ?_, fun k x hk => ?_, ?_⟩
  · unfold FE at hk
    split at hk
    · rename_i e; cases hk; rw [e]; exact g.1
    · exact h.mem k x hk
  · have i : (k, x) ∈ A ++ (b, o) :: B := by
      rcases List.mem_append.1 hk with h | h <;> simp [h]
    obtain ⟨h1, l, m⟩ := h.box k x i
    exact ⟨h1, by unfold FE; rw [if_neg (j k x hk)]; exact l, m⟩
  · have : (A ++ B).Sublist (A ++ (b, o) :: B) := List.Sublist.append (List.Sublist.refl A) (List.sublist_cons_self _ _)
    exact List.Nodup.sublist (this.map _) h.nd
theorem ST.CA {A B : List (Nat × Obj)} {b : Nat} {o : Obj} (h : ST dd F w W μ (A ++ (b, o) :: B)) : bO μ (FE μ b o) := fun k x hk => by
  unfold FE
  split
  · rename_i e; subst e; rw [(h.box k o (by simp)).2.1] at hk; cases hk
  · exact hk
theorem ST.HN {A B : List (Nat × Obj)} {b : Nat} {o : Obj} (h : ST dd F w W μ (A ++ (b, o) :: B)) : Lo F w μ (FE μ b o) := fun k hk d => by
  refine if_neg (fun e => ?_)
  subst e
  rcases (h.box k o (by simp)).2.2 with a | a
  · omega
  · exact d a
theorem ST.drop {A B : List (Nat × Obj)} {p : Nat × Obj} (h : ST dd F w W μ (A ++ p :: B)) : ST dd F w W μ (A ++ B) :=
  (h.Cs (b := p.1) (o := p.2)).dK h.CA
end
abbrev jq (α : Type) := bW → List Value → α → Prop
def Sl {α : Type} (R : jq α) (k : Nat) (μ : bW) (v : Value) (l : List α) : Prop :=
  ∃ A c, v = .slice A l.length c ∧ l.length ≤ c ∧ c ≤ maxLen ∧ (0 < l.length → ∃ b off cs T fr, A = some ⟨b, off, none⟩ ∧ μ b = some (.cells cs T fr) ∧
    ∀ i x, l[i]? = some x → ∃ ys, ys.length = k ∧ R μ ys x ∧ ∀ j y, ys[j]? = some y → cs[off + i * k + j]? = some y)
def At (μ : bW) (v : Value) (ys : List Value) : Prop :=
  ∃ b off cs T fr, v = .pointer (some ⟨b, off, none⟩) ∧ μ b = some (.cells cs T fr) ∧ ∀ j y, ys[j]? = some y → cs[off + j]? = some y
def Fr (B : Nat) (v : Value) : Prop := ∀ b, v.ownBlock = some b → B ≤ b
def DP {α : Type} (R : jq α) : Prop := ∀ μ μ' ys x, bO μ μ' → R μ ys x → R μ' ys x
def Pl {α : Type} (enc : α → List Value) : jq α := fun _ ys x => ys = enc x
theorem Pl.mono {α : Type} (enc : α → List Value) : DP (Pl enc) := fun _ _ _ _ _ h => h
theorem Sl.mono {α : Type} {R : jq α} (t : DP R) {k : Nat} {μ μ' : bW} {v : Value} {l : List α} (h : Sl R k μ v l) (d : bO μ μ') : Sl R k μ' v l := by
  obtain ⟨A, c, h1, g, j, m⟩ := h
  refine ⟨A, c, h1, g, j, fun u => ?_⟩
  obtain ⟨b, off, cs, T, fr, n, p, q⟩ := m u
  exact ⟨b, off, cs, T, fr, n, d _ _ p, fun i x w => let ⟨ys, r, s, a⟩ := q i x w; ⟨ys, r, t _ _ _ _ d s, a⟩⟩
theorem At.mono {μ μ' : bW} {v : Value} {ys : List Value} (h : At μ v ys) (g : bO μ μ') : At μ' v ys := by
  obtain ⟨b, off, cs, T, fr, h1, a, d⟩ := h
  exact ⟨b, off, cs, T, fr, h1, g _ _ a, d⟩
theorem Sl.len {α : Type} {R : jq α} {k : Nat} {μ : bW} {v : Value} {l : List α} (h : Sl R k μ v l) : l.length ≤ 9223372036854775807 := by
  obtain ⟨A, c, h1, b, a, d⟩ := h
  unfold maxLen at a
  omega
theorem Sl.nil {α : Type} (R : jq α) (k : Nat) (μ : bW) : Sl R k μ (.slice none 0 0) [] := ⟨none, 0, rfl, Nat.le_refl _, by decide, fun h => absurd h (by simp)⟩
theorem Fr.mono {B B' : Nat} {v : Value} (h : Fr B v) (a : B' ≤ B) : Fr B' v := fun b d => Nat.le_trans a (h b d)
theorem Fr.nil (B : Nat) : Fr B (.slice none 0 0) := fun b a => by simp [Value.ownBlock] at a
end Go.Proofs.YtmlncblocfcmiaaGreat
namespace Go.Proofs.YtmlncblocfcmiaaGreat
open Go.RowKit
variable {dd : Bool}
section
variable {P : Program} {n : Nat} {Q : ko} {E : Nat → Value} {W : World} {ops : Array Oper} {rest : List Oper}
  {d : Option Nat} {ty : TypeId} {pos : String} {af : Array Edge} {g : Option (Nat × Bool)}
  {F : Nat → Prop} {w : World} {μ : bW} {L : List (Nat × Obj)}
def et (P : Program) (E : Nat → Value) (o : Oper) (W : World) (v : Value) (W' : World) : Prop := (execOp (aS E) o).run P W = .ok (.value v) W'
theorem B6 {o : Oper} {dd : Nat} {v : Value} (hw : mD n ops E o) (a : o.dst = some dd) (b : dd < n) (d : et P E o W v W) (h : LW P n ops Q rest (gB E dd v) W) : LW P n ops Q (o :: rest) E W := HW hw a b d h
theorem aQ {x : Operand} {v : Value} (a : aS E x = v) : et P E ⟨d, .move x, ty, pos, af, g⟩ W v W := by rw [← a]; rfl
theorem fW {x : Operand} {v : Value} (a : aS E x = v) : et P E ⟨d, .assign x, ty, pos, af, g⟩ W v W := by rw [← a]; rfl
theorem aY {c x y : Operand} {v : Value} (a : aS E c = .bool true) (b : aS E x = v) : et P E ⟨d, .pick c x y, ty, pos, af, g⟩ W v W := by
  show (do pure (.value (if ← asBool (aS E c) then aS E x else aS E y)) : Sem Next).run P W = _
  rw [a, ← b]; simp [asBool]
theorem aZ {c x y : Operand} {v : Value} (a : aS E c = .bool false) (b : aS E y = v) : et P E ⟨d, .pick c x y, ty, pos, af, g⟩ W v W := by
  show (do pure (.value (if ← asBool (aS E c) then aS E x else aS E y)) : Sem Next).run P W = _
  rw [a, ← b]; simp [asBool]
theorem yu {x : Operand} {i : Nat} {vs : Array Value} {v : Value} (b : aS E x = .tuple vs) (a : vs[i]? = some v) : et P E ⟨d, .extract x i, ty, pos, af, g⟩ W v W := by
  show (do pure (.value (← Instr.extract (aS E x) i)) : Sem Next).run P W = _
  rw [b]; simp [Instr.extract, a]
theorem gn {u : TypeId} {x : Operand} {b : Bool} (a : aS E x = .bool b) : et P E ⟨d, .unOp .not u x, ty, pos, af, g⟩ W (.bool !b) W := by
  show (do pure (.value (← Op.unary .not (aS E x))) : Sem Next).run P W = _
  rw [a]; simp [Op.unary]
theorem Gu {fn : Fn} {first caps : Array Operand} {v : Value} (a : .func fn (first.map (aS E)) (caps.map (aS E)) = v) : et P E ⟨d, .makeFunc fn first caps, ty, pos, af, g⟩ W v W := by
  show (do pure (.value (← Instr.makeFunc fn (first.map (aS E)) (caps.map (aS E)))) : Sem Next).run P W = _
  rw [← a]; simp [Instr.makeFunc]
def DN (k : IntKind) (op : BinOp) (a b : Int) : Option Value :=
  match op with
  | .eql => some (.bool (a == b))
  | .neq => some (.bool (a != b))
  | .lss => some (.bool (decide (a < b)))
  | .leq => some (.bool (decide (a ≤ b)))
  | .gtr => some (.bool (decide (a > b)))
  | .geq => some (.bool (decide (a ≥ b)))
  | .add => some (.int k (k.wrap (a + b)))
  | .sub => some (.int k (k.wrap (a - b)))
  | .mul => some (.int k (k.wrap (a * b)))
  | _ => none
theorem cF {op : BinOp} {h m : TypeId} {x y : Operand} {k : IntKind} {a b : Int} {v : Value} (j : aS E x = .int k a) (l : aS E y = .int k b) (i : DN k op a b = some v) :
    et P E ⟨d, .binOp op h x y m, ty, pos, af, g⟩ W v W := by
  show (do let r ← (do eqGuard op h x y (aS E x) (aS E y); binOp op h (aS E x) (aS E y)); pure (.value r) : Sem Next).run P W = _
  rw [j, l]
  cases op <;> simp [DN] at i <;> subst i <;> simp [eqGuard, binOp, Op.intCmp, Op.intArith]
def Jj (op : BinOp) (a b : ByteArray) : Option Value :=
  match op with
  | .eql => some (.bool (a.toList == b.toList))
  | .neq => some (.bool !(a.toList == b.toList))
  | .lss => some (.bool (Op.bytesLess a.toList b.toList))
  | .leq => some (.bool (Op.bytesLess a.toList b.toList || a.toList == b.toList))
  | .gtr => some (.bool !(Op.bytesLess a.toList b.toList || a.toList == b.toList))
  | .geq => some (.bool !(Op.bytesLess a.toList b.toList))
  | _ => none
def pY (a b : ByteArray) : Option ByteArray := if ((a.size + b.size : Nat) : Int) > IntKind.i64.max then none else some (a ++ b)
theorem kM {op : BinOp} {h l : TypeId} {x y : Operand} {a b : ByteArray} {v : Value} (j : aS E x = .string a) (k : aS E y = .string b) (i : Jj op a b = some v) :
    et P E ⟨d, .binOp op h x y l, ty, pos, af, g⟩ W v W := by
  show (do let r ← (do eqGuard op h x y (aS E x) (aS E y); binOp op h (aS E x) (aS E y)); pure (.value r) : Sem Next).run P W = _
  rw [j, k]
  cases op <;> simp [Jj] at i <;> subst i <;> simp [eqGuard, binOp, Op.stringOp]
theorem qx {i l : TypeId} {x y : Operand} {a b r : ByteArray} (j : aS E x = .string a) (k : aS E y = .string b) (h : pY a b = some r) :
    et P E ⟨d, .binOp .add i x y l, ty, pos, af, g⟩ W (.string r) W := by
  show (do let r ← (do eqGuard .add i x y (aS E x) (aS E y); binOp .add i (aS E x) (aS E y)); pure (.value r) : Sem Next).run P W = _
  rw [j, k]
  simp only [pY] at h
  split at h
  · cases h
  · rename_i hle; cases h; simp [eqGuard, binOp, Op.stringOp]; simpa using hle
theorem J6 {op : BinOp} {h m : TypeId} {x y : Operand} {a b : Bool} (j : P.underlying h = some .bool) (k : aS E x = .bool a) (l : aS E y = .bool b) (i : op = .eql) :
    et P E ⟨d, .binOp op h x y m, ty, pos, af, g⟩ W (.bool (a == b)) W := by
  subst i
  show (do let r ← (do eqGuard .eql h x y (aS E x) (aS E y); binOp .eql h (aS E x) (aS E y)); pure (.value r) : Sem Next).run P W = _
  rw [k, l]
  simp [eqGuard, binOp, Op.equal, Op.maxDepth, run_equalIn_bool' W 9999 h a b j]
theorem oa {h m : TypeId} {x y : Operand} {a b : Array Value} {r : Bool} (k : aS E x = .agg a) (l : aS E y = .agg b) (i : ∀ W, (eqGuard .eql h x y (.agg a) (.agg b)).run P W = .ok () W) (j : ∀ W, (binOp .eql h (.agg a) (.agg b)).run P W = .ok (.bool r) W) : et P E ⟨d, .binOp .eql h x y m, ty, pos, af, g⟩ W (.bool r) W := by
  show (do let r ← (do eqGuard .eql h x y (aS E x) (aS E y); binOp .eql h (aS E x) (aS E y)); pure (.value r) : Sem Next).run P W = _
  rw [k, l]; simp [i W, j W]
theorem BQ {h m : TypeId} {x y : Operand} {a b : Array Value} {r : Bool} (k : aS E x = .agg a) (l : aS E y = .agg b) (i : ∀ W, (eqGuard .neq h x y (.agg a) (.agg b)).run P W = .ok () W) (j : ∀ W, (binOp .neq h (.agg a) (.agg b)).run P W = .ok (.bool r) W) : et P E ⟨d, .binOp .neq h x y m, ty, pos, af, g⟩ W (.bool r) W := by
  show (do let r ← (do eqGuard .neq h x y (aS E x) (aS E y); binOp .neq h (aS E x) (aS E y)); pure (.value r) : Sem Next).run P W = _
  rw [k, l]; simp [i W, j W]
theorem vT {t e : TypeId} (dd : Nat) (b : P.underlying t = some (.pointer e)) (a : Option Addr) (W : World) : (Op.equalIn (dd + 1) t (.pointer a) (.pointer none)).run P W = .ok a.isNone W := by
  cases a <;> simp [Op.equalIn, run_underlying b]
theorem qv {b l e : TypeId} {x y : Operand} {a : Option Addr} (i : P.underlying b = some (.pointer e)) (j : aS E x = .pointer a) (k : aS E y = .pointer none) :
    et P E ⟨d, .binOp .eql b x y l, ty, pos, af, g⟩ W (.bool a.isNone) W := by
  show (do let r ← (do eqGuard .eql b x y (aS E x) (aS E y); binOp .eql b (aS E x) (aS E y)); pure (.value r) : Sem Next).run P W = _
  rw [j, k]
  have h := vT 9999 i a W
  simp [eqGuard, binOp, Op.equal, show Op.maxDepth = 9999 + 1 from rfl, h]
theorem xA {b l e : TypeId} {x y : Operand} {a : Option Addr} (i : P.underlying b = some (.pointer e)) (j : aS E x = .pointer a) (k : aS E y = .pointer none) :
    et P E ⟨d, .binOp .neq b x y l, ty, pos, af, g⟩ W (.bool !a.isNone) W := by
  show (do let r ← (do eqGuard .neq b x y (aS E x) (aS E y); binOp .neq b (aS E x) (aS E y)); pure (.value r) : Sem Next).run P W = _
  rw [j, k]
  have h := vT 9999 i a W
  simp [eqGuard, binOp, Op.equal, show Op.maxDepth = 9999 + 1 from rfl, h]
theorem gV {x : Operand} {t : TypeId} {s : ByteArray} (a : P.underlying t = some .string) (b : aS E x = .string s) : et P E ⟨d, .call ⟨.builtin .len, #[x], #[t]⟩, ty, pos, af, g⟩ W (.int .i64 s.size) W := by
  show (do let d ← resolve (aS E) ⟨.builtin .len, #[x], #[t]⟩ ty; invoke d.target d.args : Sem Next).run P W = _
  simp [resolve, invoke, builtin, Builtin.len_, run_underlying a, b, goInt]
theorem uF {x : Operand} {t e : TypeId} {A : Option Addr} {l c : Nat} (a : P.underlying t = some (.slice e)) (b : aS E x = .slice A l c) : et P E ⟨d, .call ⟨.builtin .len, #[x], #[t]⟩, ty, pos, af, g⟩ W (.int .i64 l) W := by
  show (do let d ← resolve (aS E) ⟨.builtin .len, #[x], #[t]⟩ ty; invoke d.target d.args : Sem Next).run P W = _
  simp [resolve, invoke, builtin, Builtin.len_, run_underlying a, b, goInt]
theorem cU {α : Type} {R : jq α} {k : Nat} {m : bW} {x : Operand} {t e : TypeId} {v : Value} {l : List α} (b : P.underlying t = some (.slice e)) (h : aS E x = v) (a : Sl R k m v l) : et P E ⟨d, .call ⟨.builtin .len, #[x], #[t]⟩, ty, pos, af, g⟩ W (.int .i64 l.length) W := by
  obtain ⟨A, c, rfl, _⟩ := a
  exact uF b h
theorem uy {t : TypeId} {x a : Operand} {m : IntKind} {s : ByteArray} {i : Int} {c : UInt8} (k : P.underlying t = some .string) (l : aS E x = .string s) (h : aS E a = .int m i) (b : 0 ≤ i) (j : s[i.toNat]? = some c) :
    et P E ⟨d, .index t x a, ty, pos, af, g⟩ W (.int .u8 c.toNat) W := by
  show (do pure (.value (← Instr.index t (aS E x) (aS E a))) : Sem Next).run P W = _
  rw [l, h]
  simp [Instr.index, asIntOf, run_underlying k, b, j]
def dY (P : Program) (t : TypeId) (f off : Nat) : Prop := ∀ b o w, (Instr.fieldAt t (.pointer (some ⟨b, o, none⟩)) f).run P w = .ok (.pointer (some ⟨b, o + off, none⟩)) w
theorem aO {t : TypeId} {x : Operand} {f off b o : Nat} (a : dY P t f off) (h : aS E x = .pointer (some ⟨b, o, none⟩)) : et P E ⟨d, .fieldAddr t x f, ty, pos, af, g⟩ W (.pointer (some ⟨b, o + off, none⟩)) W := by
  show (do pure (.value (← Instr.fieldAt t (aS E x) f)) : Sem Next).run P W = _
  rw [h]; simp [a b o W]
theorem yV {t : TypeId} {x : Operand} {f off : Nat} {v : Value} {ys : List Value} (zs : List Value) (k : dY P t f off) (n : aS E x = v) (m : At μ v ys) (p : (ys.drop off).take zs.length = zs) :
    ∃ h, At μ h zs ∧ ∀ W, et P E ⟨d, .fieldAddr t x f, ty, pos, af, g⟩ W h W := by
  obtain ⟨b, o, cs, T, fr, rfl, h1, i⟩ := m
  refine ⟨_, ⟨b, o + off, cs, T, fr, rfl, h1, fun j y a => ?_⟩, fun W => aO k n⟩
  have l : j < zs.length := (List.getElem?_eq_some_iff.1 a).1
  have := i (off + j) y (by
    rw [← p, List.getElem?_take_of_lt l, List.getElem?_drop] at a
    exact a)
  rw [Nat.add_assoc]
  exact this
theorem fG {x : Operand} {a : Addr} (b : aS E x = .pointer (some a)) : et P E ⟨d, .nilCheck x, ty, pos, af, g⟩ W (.pointer (some a)) W := by
  unfold et execOp
  simp [b]
theorem FW {α : Type} {R : jq α} {k : Nat} {t e : TypeId} {x h : Operand} {O : IntKind} {v : Value} {i : Int} {l : List α} {x0 : α} (J : P.underlying t = some (.slice e)) (he : ∀ w, (sizeOf e).run P w = .ok k w) (L : aS E x = v) (F : aS E h = .int O i) (I : Sl R k μ v l) (n : 0 ≤ i) (m : l[i.toNat]? = some x0) :
    ∃ p ys, ys.length = k ∧ R μ ys x0 ∧ At μ p ys ∧ ∀ W, et P E ⟨d, .indexAddr t x h, ty, pos, af, g⟩ W p W := by
  obtain ⟨A, c, rfl, Q, U, q⟩ := I
  have G : i.toNat < l.length := (List.getElem?_eq_some_iff.1 m).1
  obtain ⟨b, off, cs, T, fr, rfl, r, s⟩ := q (by omega)
  obtain ⟨ys, u, z, a⟩ := s i.toNat x0 m
  refine ⟨.pointer (some ⟨b, off + i.toNat * k, none⟩), ys, u, z, ⟨b, off + i.toNat * k, cs, T, fr, rfl, r, fun j y M => a j y M⟩, fun W => ?_⟩
  show (do pure (.value (← Instr.indexAt t (aS E x) (aS E h))) : Sem Next).run P W = _
  rw [L, F]
  have D : 0 ≤ i ∧ i < (l.length : Int) := ⟨n, by omega⟩
  simp [Instr.indexAt, asIntOf, run_underlying J, he W, D, Addr.add_lit]
theorem fJ {α : Type} {enc : α → List Value} {k : Nat} {t e : TypeId} {x a : Operand} {y : IntKind} {v : Value} {i : Int} {l : List α} {x0 : α} (s : P.underlying t = some (.slice e)) (he : ∀ w, (sizeOf e).run P w = .ok k w) (u : aS E x = v) (n : aS E a = .int y i) (r : Sl (Pl enc) k μ v l) (b : 0 ≤ i) (q : l[i.toNat]? = some x0) :
    ∃ p, At μ p (enc x0) ∧ ∀ W, et P E ⟨d, .indexAddr t x a, ty, pos, af, g⟩ W p W := by
  obtain ⟨p, ys, h1, h, j, m⟩ := FW (d := d) (ty := ty) (pos := pos) (af := af) (g := g) s he u n r b q
  cases h
  exact ⟨p, j, m⟩
theorem Dz (P : Program) {W : World} {b off : Nat} {cs : Array Value} {T : TypeId} {fr : Nat × Nat} (a : W.heap[b]? = some (.cells cs T fr)) (ys : List Value) (g : ∀ j y, ys[j]? = some y → cs[off + j]? = some y) :
    (loadCells ⟨b, off, none⟩ ys.length).run P W = .ok ys.toArray W :=
  run_loadCells_list W ⟨b, off, none⟩ ys (fun j v d => by rw [Addr.add_lit, cell_of_row W b (off + j) cs T fr a]; exact g j v d)
theorem wg {W : World} {t : TypeId} {b off : Nat} {cs : Array Value} {T : TypeId} {fr : Nat × Nat} (a : ∀ w, (isAgg t).run P w = .ok true w) (ys : List Value) (d : ∀ w, (sizeOf t).run P w = .ok ys.length w) (g : W.heap[b]? = some (.cells cs T fr)) (h : ∀ j y, ys[j]? = some y → cs[off + j]? = some y) : (Instr.loadAt t (.pointer (some ⟨b, off, none⟩))).run P W = .ok (.agg ys.toArray) W := by
  simp [Instr.loadAt, Instr.sureAddr, loadVar, a W, d W, Dz P g ys h]
theorem wh {W : World} {t : TypeId} {b off : Nat} {cs : Array Value} {T : TypeId} {fr : Nat × Nat} (a : ∀ w, (isAgg t).run P w = .ok false w) {y : Value} (d : W.heap[b]? = some (.cells cs T fr)) (h : cs[off]? = some y) : (Instr.loadAt t (.pointer (some ⟨b, off, none⟩))).run P W = .ok y W := by
  have g : W.cell? ⟨b, off, none⟩ = some y := by rw [cell_of_row W b off cs T fr d]; exact h
  simp [Instr.loadAt, Instr.sureAddr, loadVar, a W, load, Sem.run, g]
theorem aH {t : TypeId} {x : Operand} {a v : Value} (h : aS E x = a) (b : (Instr.loadAt t a).run P W = .ok v W) : et P E ⟨d, .load t x, ty, pos, af, g⟩ W v W := by
  show (do pure (.value (← Instr.loadAt t (aS E x))) : Sem Next).run P W = _
  rw [h]; simp [b]
def gf (μ : bW) (A : List (Nat × Obj)) (W : World) : Prop := (∀ b o, μ b = some o → W.heap[b]? = some o) ∧ ∀ b o, (b, o) ∈ A → W.heap[b]? = some o
theorem ST.has (h : ST dd F w W μ L) : gf μ L W := ⟨h.mem, fun b o a => (h.box b o a).1⟩
theorem gf.sub {μ' : bW} {A A' : List (Nat × Obj)} (h : gf μ A W) (g : bO μ' μ) (d : ∀ p, p ∈ A' → p ∈ A) : gf μ' A' W := ⟨fun b o a => h.1 b o (g b o a), fun b o a => h.2 b o (d _ a)⟩
theorem bE {A : List (Nat × Obj)} (hH : gf μ A W) {t : TypeId} {p : Value} {ys : List Value} (hp : At μ p ys) (d : ∀ w, (isAgg t).run P w = .ok true w) (g : ∀ w, (sizeOf t).run P w = .ok ys.length w) :
    (Instr.loadAt t p).run P W = .ok (.agg ys.toArray) W := by
  obtain ⟨b, off, cs, T, fr, rfl, h1, a⟩ := hp
  exact wg d ys g (hH.1 _ _ h1) a
theorem mC {A : List (Nat × Obj)} (hH : gf μ A W) {t : TypeId} {p y : Value} (hp : At μ p [y]) (d : ∀ w, (isAgg t).run P w = .ok false w) :
    (Instr.loadAt t p).run P W = .ok y W := by
  obtain ⟨b, off, cs, T, fr, rfl, h1, a⟩ := hp
  exact wh d (hH.1 _ _ h1) (a 0 y rfl)
theorem aK {A : List (Nat × Obj)} (hH : gf μ A W) {t : TypeId} {b off : Nat} {cs : Array Value} {T : TypeId} {fr : Nat × Nat} (h : (b, Obj.cells cs T fr) ∈ A) (ys : List Value) (k : (cs.toList.drop off).take ys.length = ys) (g : ∀ w, (isAgg t).run P w = .ok true w) (i : ∀ w, (sizeOf t).run P w = .ok ys.length w) : (Instr.loadAt t (.pointer (some ⟨b, off, none⟩))).run P W = .ok (.agg ys.toArray) W :=
  wg g ys i (hH.2 _ _ h) (fun j y a => by
    have d : j < ys.length := (List.getElem?_eq_some_iff.1 a).1
    rw [← k, List.getElem?_take_of_lt d, List.getElem?_drop] at a
    simpa using a)
theorem bA {A : List (Nat × Obj)} (hH : gf μ A W) {t : TypeId} {b off : Nat} {cs : Array Value} {T : TypeId} {fr : Nat × Nat} (d : (b, Obj.cells cs T fr) ∈ A) {y : Value} (g : cs[off]? = some y) (a : ∀ w, (isAgg t).run P w = .ok false w) : (Instr.loadAt t (.pointer (some ⟨b, off, none⟩))).run P W = .ok y W :=
  wh a (hH.2 _ _ d) g
theorem dJ {t : TypeId} {a : Array (Nat × Operand)} {b : Array (Nat × Value)} {v : Value} (h : a.map (fun (i, x) => (i, aS E x)) = b) (j : ∀ W, (Instr.build t b).run P W = .ok v W) : et P E ⟨d, .build t a, ty, pos, af, g⟩ W v W := by
  show (do pure (.value (← Instr.build t (a.map fun (i, x) => (i, aS E x)))) : Sem Next).run P W = _
  rw [h]; simp [j W]
theorem cN {t : TypeId} {z cs : Array Value} {fs : Array Field} {a : Array (Nat × Value)} {pl : Array (Nat × Nat)} (g : ∀ w, (zeroValue t).run P w = .ok (.agg z) w) (d : P.underlying t = some (.struct fs)) (hp : ∀ w, (fs.mapM fun f => do pure (f.offset, ← sizeOf f.type) : Sem (Array (Nat × Nat))).run P w = .ok pl w) (b : Instr.fill (pl[·]?) z a.toList = some cs) (W : World) : (Instr.build t a).run P W = .ok (.agg cs) W := by
  simp only [Instr.build, Sem.run_bind, g W, Result.andThen_ok, run_underlying d, Value.cells]
  rw [hp W]
  simp only [Result.andThen_ok, b, Sem.run_pure]
end
theorem yW {α : Type} : ∀ (a : Ask α) (w : World), w.drawn ≤ (w.ask a).2.drawn
  | .done a, w => by simp [World.ask]
  | .ask b range k, w => by
    unfold World.ask
    dsimp only
    split
    · exact yW (k 0) w
    · refine Nat.le_trans (Nat.le_succ w.drawn) ?_
      exact yW _ { w with drawn := w.drawn + 1 }
theorem Hf (w : World) (c : Sys) : w.drawn ≤ (w.sys c).2.drawn := by
  have h := yW (Kernel.perform c w.os) w
  unfold World.sys
  generalize w.ask (Kernel.perform c w.os) = r at *
  obtain ⟨⟨a, b⟩, d⟩ := r
  cases a <;> simp at h ⊢ <;> exact h
theorem BM {p : Program} {w d : World} {a : Addr} {u : TypeId} {k : Addr} {v : Value} {b : Bool} {l : List Addr} (h : w.viewStore p a u k v b = .ok (d, l)) : d.drawn = w.drawn := by
  unfold World.viewStore at h
  simp only [bind, Except.bind, pure, Except.pure] at h
  split at h
  · cases h
  · split at h
    · cases h
    · split at h
      · split at h
        · cases h
        · split at h
          · cases h
          · cases h; rfl
      · cases h
theorem Cx {p : Program} {w d : World} {a : Addr} {v : Value} {b : Bool} {l : List Addr} (h : w.farStore p a v b = .ok (d, l)) : d.drawn = w.drawn := by
  unfold World.farStore at h
  split at h
  · split at h
    · rename_i h1; cases h; exact BM h1
    · cases h
  · cases h
theorem iy {α : Type} {p : Program} : ∀ (s : Sem α) (w d : World) (a : α), s.run p w = .ok a d → w.drawn ≤ d.drawn
  | .pure a, w, d, b, h => by simp only [Sem.run] at h; cases h; exact Nat.le_refl _
  | .load m a k, w, d, b, h => by
    simp only [Sem.run] at h
    split at h
    · exact iy _ _ _ _ h
    · split at h
      · exact iy _ _ _ _ h
      · cases h
  | .store m a v k, w, d, b, h => by
    have key : ∀ (r : Result α) i, r = .ok b d → (r = (match w.cell? a with
        | some _ => if w.frozen? a then .halt i w else k.run p (w.setCell a v)
        | none => match w.farStore p a v (m == .atomic) with
          | .ok (w, _) => k.run p w
          | .error h => .halt h w)) → w.drawn ≤ d.drawn := by
      intro r i j h
      rw [j] at h
      split at h
      · split at h
        · cases h
        · have := iy k _ _ _ h.symm
          simpa [World.setCell] using this
      · split at h
        · rename_i h1
          have g := iy k _ _ _ h.symm
          rw [Cx h1] at g
          exact g
        · cases h
    cases v with
    | agg cs => simp only [Sem.run] at h; cases h
    | tuple cs => simp only [Sem.run] at h; cases h
    | _ => exact key _ _ h (by simp only [Sem.run]; rfl)
  | .new o k, w, d, b, h => by simp only [Sem.run] at h; have := iy (k _) _ _ _ h; exact this
  | .shape r k, w, d, b, h => by simp only [Sem.run] at h; exact iy _ _ _ _ h
  | .freeze a n k, w, d, b, h => by
    simp only [Sem.run] at h
    have := iy k _ _ _ h
    unfold World.freeze at this
    split at this <;> exact this
  | .frozen a k, w, d, b, h => by simp only [Sem.run] at h; exact iy _ _ _ _ h
  | .getObj r k, w, d, b, h => by
    simp only [Sem.run] at h
    split at h <;> try (cases h; done)
    exact iy _ _ _ _ h
  | .setObj r o k, w, d, b, h => by
    simp only [Sem.run] at h
    split at h <;> try (cases h; done)
    have := iy k _ _ _ h
    exact this
  | .choose q k, w, d, b, h => by
    simp only [Sem.run] at h
    split at h
    · exact iy _ _ _ _ h
    · exact Nat.le_trans (Nat.le_succ _) (iy _ _ _ _ h)
  | .sys c k, w, d, b, h => by
    simp only [Sem.run] at h
    exact Nat.le_trans (Hf w c) (iy _ _ _ _ h)
  | .program k, w, d, b, h => by simp only [Sem.run] at h; exact iy _ _ _ _ h
  | .mark m k, w, d, b, h => by simp only [Sem.run] at h; exact iy k _ _ _ h
  | .halt x, w, d, b, h => by simp only [Sem.run] at h; cases h
end Go.Proofs.YtmlncblocfcmiaaGreat
namespace Go.Proofs.YtmlncblocfcmiaaGreat
open Go.RowKit
variable {dd : Bool}
section
variable {P : Program} {n : Nat} {Q : ko} {E : Nat → Value} {W : World} {ops : Array Oper} {rest : List Oper}
  {d : Option Nat} {ty : TypeId} {pos : String} {af : Array Edge} {g : Option (Nat × Bool)}
  {F : Nat → Prop} {w : World} {μ : bW} {L : List (Nat × Obj)}
def fT (P : Program) (E : Nat → Value) (o : Oper) (W : World) (K : Value → World → Prop) : Prop :=
  (∃ v W', (execOp (aS E) o).run P W = .ok (.value v) W' ∧ K v W') ∨ (∃ W', (execOp (aS E) o).run P W = .ok .skip W' ∧ K undef W') ∨
  (∃ f args, (execOp (aS E) o).run P W = .ok (.enter f args) W ∧ Calls P f args W fun e a => ∃ v, e = .returned v ∧ K v a)
theorem fT.mono {o : Oper} {K K' : Value → World → Prop} (h : fT P E o W K) (hk : ∀ v W', K v W' → K' v W') : fT P E o W K' := by
  rcases h with ⟨v, W', h1, a⟩ | ⟨W', h1, a⟩ | ⟨f, args, h1, a⟩
  · exact .inl ⟨v, W', h1, hk _ _ a⟩
  · exact .inr (.inl ⟨W', h1, hk _ _ a⟩)
  · exact .inr (.inr ⟨f, args, h1, Calls.mono a (fun _ _ ⟨v, b, d⟩ => ⟨v, b, hk _ _ d⟩)⟩)
theorem Lq {o : Oper} {dd : Nat} (hw : mD n ops E o) (d : o.dst = some dd) (g : dd < n) (h : fT P E o W fun v W' => LW P n ops Q rest (gB E dd v) W') : LW P n ops Q (o :: rest) E W := by
  rcases h with ⟨v, W', h1, b⟩ | ⟨W', h1, b⟩ | ⟨f, args, h1, b⟩
  · exact HW hw d g h1 b
  · intro a ha
    unfold wpList
    rw [if_pos (hw.of ha)]
    refine .inl ?_
    unfold Oper.wp
    rw [ha.eval, h1, Oper.upon_skip, d]
    exact b _ (ha.put g _)
  · exact IP hw d g h1 b
theorem LN {o : Oper} (hw : mD n ops E o) (d : o.dst = none) (h : fT P E o W fun _ W' => LW P n ops Q rest E W') : LW P n ops Q (o :: rest) E W := by
  rcases h with ⟨v, W', h1, b⟩ | ⟨W', h1, b⟩ | ⟨f, args, h1, b⟩
  · intro a ha
    unfold wpList
    rw [if_pos (hw.of ha)]
    refine .inl ?_
    unfold Oper.wp
    rw [ha.eval, h1, Oper.upon_value, d]
    exact b _ (ha.sS _)
  · exact Jc hw d h1 b
  · intro a ha
    unfold wpList
    rw [if_pos (hw.of ha)]
    refine .inl ?_
    unfold Oper.wp
    rw [ha.eval, h1, Oper.upon_enter]
    refine Calls.mono b ?_
    rintro e i ⟨v, rfl, g⟩
    simp only [d]
    exact g _ (ha.sS _)
theorem bX {K : Value → World → Prop} {t : TypeId} {x : Operand} {v : Value} (a : ST dd F w W μ L) (i : aS E x = v) (h : ∀ W' b, ST dd F w W' μ ((b, .cells v.cells t (0, 0)) :: L) → K (.pointer (some ⟨b, 0, none⟩)) W') : fT P E ⟨d, .box t x, ty, pos, af, g⟩ W K :=
  .inl ⟨.pointer (some ⟨W.heap.size, 0, none⟩), W.alloc (.cells v.cells t (0, 0)), by
      show (do pure (.value (← Instr.box t (aS E x))) : Sem Next).run P W = _
      rw [i]
      simp [Instr.box, newVar, newRow, newObj, Sem.run], h _ _ (a.alloc _)⟩
theorem bR {K : Value → World → Prop} {t : TypeId} {z : Value} (a : ST dd F w W μ L) (i : ∀ w, (zeroValue t).run P w = .ok z w) (h : ∀ W' b, ST dd F w W' μ ((b, .cells z.cells t (0, 0)) :: L) → K (.pointer (some ⟨b, 0, none⟩)) W') : fT P E ⟨d, .alloc t, ty, pos, af, g⟩ W K :=
  .inl ⟨.pointer (some ⟨W.heap.size, 0, none⟩), W.alloc (.cells z.cells t (0, 0)), by
      show (do pure (.value (← Instr.alloc t true (.tuple #[]))) : Sem Next).run P W = _
      simp [Instr.alloc, i W, newVar, newRow, newObj, Sem.run], h _ _ (a.alloc _)⟩
theorem Ck {t e : TypeId} {m k : Nat} {z : Value} {d : Array (Nat × Value)} {cs : Array Value} (h : P.underlying t = some (.slice e)) (g : ∀ w, (sizeOf e).run P w = .ok k w) (j : ∀ w, (zeroValue e).run P w = .ok z w) (hm : m * k ≤ 16777216) (a : Instr.fill (fun i => some (i * k, k)) ((Array.range (m * k)).map (fun i => (if m * k = 0 then (#[] : Array Value) else z.cells)[i % (if m * k = 0 then (#[] : Array Value) else z.cells).size]!)) d.toList = some cs) (W : World) :
    (Instr.buildSlice t m d).run P W = .ok (.slice (some ⟨W.heap.size, 0, none⟩) m m) (W.alloc (.cells cs e (0, 0))) := by
  simp only [Instr.buildSlice, Sem.run_bind, run_underlying h, Result.andThen_ok, g W]
  rw [if_neg (by omega)]
  by_cases b : m * k = 0
  · simp only [b, if_true] at a ⊢
    simp only [Sem.run_bind, Sem.run_pure, Result.andThen_ok, a]
    simp [newRow, newObj, Sem.run]
  · simp only [b, if_false] at a ⊢
    simp only [Sem.run_bind, j W, Sem.run_pure, Result.andThen_ok, a]
    simp [newRow, newObj, Sem.run]
theorem bJ {K : Value → World → Prop} {t e : TypeId} {m : Nat} {j : Array (Nat × Operand)} {k : Array (Nat × Value)} {cs : Array Value} (a : ST dd F w W μ L) (l : j.map (fun (i, x) => (i, aS E x)) = k) (n : ∀ W, (Instr.buildSlice t m k).run P W = .ok (.slice (some ⟨W.heap.size, 0, none⟩) m m) (W.alloc (.cells cs e (0, 0)))) (h : ∀ W' b, ST dd F w W' μ ((b, .cells cs e (0, 0)) :: L) → K (.slice (some ⟨b, 0, none⟩) m m) W') : fT P E ⟨d, .buildSlice t m j, ty, pos, af, g⟩ W K :=
  .inl ⟨.slice (some ⟨W.heap.size, 0, none⟩) m m, W.alloc (.cells cs e (0, 0)), by
      show (do pure (.value (← Instr.buildSlice t m (j.map fun (i, x) => (i, aS E x)))) : Sem Next).run P W = _
      rw [l]
      simp [n W], h _ _ (a.alloc _)⟩
theorem ST.store {A B : List (Nat × Obj)} {b : Nat} {cs : Array Value} {t : TypeId} (d : ST dd F w W μ (A ++ (b, .cells cs t (0, 0)) :: B)) (a : Array Value) :
    ST dd F w (W.setRow b a) μ (A ++ (b, .cells a t (0, 0)) :: B) := by
  have g := (d.box b _ (by simp : (b, Obj.cells cs t (0, 0)) ∈ A ++ (b, .cells cs t (0, 0)) :: B)).1
  refine d.put ⟨rfl, rfl, rfl, Nat.le_refl _, by simp [World.setRow]⟩ (fun k hk => ?_) (setRow_heap W b cs a t (0, 0) g)
  simp only [World.setRow, Array.getElem?_modify]
  rw [if_neg (fun e => hk e.symm)]
theorem sQ (P : Program) {W : World} {t : TypeId} {b off : Nat} {cs : Array Value} {T : TypeId} (v : Value) (a : ∀ w, (sizeOf t).run P w = .ok v.cells.size w) (h1 : ∀ u ∈ v.cells.toList, u.oneCell' = true) (d : W.heap[b]? = some (.cells cs T (0, 0))) (g : off + v.cells.size ≤ cs.size) : (Instr.storeAt t (.pointer (some ⟨b, off, none⟩)) v).run P W = .ok () (W.setRow b (cs.toList.take off ++ v.cells.toList ++ cs.toList.drop (off + v.cells.size)).toArray) := by
  have := run_storeCells_at (P := P) b off T v.cells.toList 0 cs W d (by simpa using g) h1
  simp [Instr.storeAt, Instr.sureAddr, storeVar, a W]
  simpa using this
theorem J3 {K : Value → World → Prop} (A : List (Nat × Obj)) {B : List (Nat × Obj)} {t : TypeId} {x y : Operand} (v : Value) {b off : Nat} {cs : Array Value} {T : TypeId} (a : Array Value) (i : ST dd F w W μ (A ++ (b, .cells cs T (0, 0)) :: B)) (n : aS E x = .pointer (some ⟨b, off, none⟩)) (p : aS E y = v) (j : ∀ w, (sizeOf t).run P w = .ok v.cells.size w) (h1 : ∀ u ∈ v.cells.toList, u.oneCell' = true) (m : off + v.cells.size ≤ cs.size) (l : (cs.toList.take off ++ v.cells.toList ++ cs.toList.drop (off + v.cells.size)).toArray = a) (h : ∀ W', ST dd F w W' μ (A ++ (b, .cells a T (0, 0)) :: B) → K undef W') : fT P E ⟨d, .store t x y, ty, pos, af, g⟩ W K :=
  .inr (.inl ⟨W.setRow b a, by
      show (do Instr.storeAt t (aS E x) (aS E y); pure .skip : Sem Next).run P W = _
      have k := (i.box b _ (by simp : (b, Obj.cells cs T (0, 0)) ∈ A ++ (b, .cells cs T (0, 0)) :: B)).1
      rw [n, p]
      simp only [Sem.run_bind, sQ P v j h1 k m, l, Result.andThen_ok, Sem.run_pure], h _ (i.store a)⟩)
def bF (dd : Bool) (P : Program) (f : FuncId) (args : List Value) (w : World) (v : Value) : Prop := Calls P f args.toArray w fun e a => e = .returned v ∧ Ex dd w a
theorem HD {f : FuncId} {fv : Operand} {ax : Array Operand} {ats : Array TypeId} {caps args : Array Value} (a : aS E fv = .func (.func f) #[] caps) (he : ∀ args w, (callFunc f args).run P w = .ok (.enter f args) w) (ha : ax.map (aS E) ++ caps = args) :
    (execOp (aS E) ⟨d, .call ⟨.value fv, ax, ats⟩, ty, pos, af, g⟩).run P W = .ok (.enter f args) W := by
  show (do let d ← resolve (aS E) ⟨.value fv, ax, ats⟩ ty; invoke d.target d.args : Sem Next).run P W = _
  rw [← ha]
  simp only [resolve, a, Deferred.ofValue, Sem.run_bind, Sem.run_pure, Result.andThen_ok, invoke]
  simp [he]
theorem zr {K : Value → World → Prop} {f : FuncId} {fv : Operand} {ax : Array Operand} {ats : Array TypeId} {caps args : Array Value} (a : aS E fv = .func (.func f) #[] caps) (he : ∀ args w, (callFunc f args).run P w = .ok (.enter f args) w) (ha : ax.map (aS E) ++ caps = args) (h : Calls P f args W fun e b => ∃ v, e = .returned v ∧ K v b) : fT P E ⟨d, .call ⟨.value fv, ax, ats⟩, ty, pos, af, g⟩ W K :=
  .inr (.inr ⟨f, args, HD a he ha, h⟩)
theorem zy {K : Value → World → Prop} {f : FuncId} {fv : Operand} {ax : Array Operand} {ats : Array TypeId} {args : List Value} {v : Value} (a : ST dd F w W μ L) (j : aS E fv = .func (.func f) #[] #[]) (he : ∀ args w, (callFunc f args).run P w = .ok (.enter f args) w) (ha : (ax.map (aS E) ++ (#[] : Array Value)) = args.toArray) (i : bF dd P f args W v) (h : ∀ W', ST dd F w W' μ L → K v W') : fT P E ⟨d, .call ⟨.value fv, ax, ats⟩, ty, pos, af, g⟩ W K :=
  zr j he ha (Calls.mono i (fun _ _ ⟨h1, b⟩ => ⟨v, h1, h _ (a.DO b)⟩))
def bG {α : Type} (e : TypeId) (enc : α → List Value) (k : Nat) (v : Value) (l : List α) (R : List (Nat × Obj)) : Prop :=
  (v = .slice none 0 0 ∧ l = [] ∧ R = []) ∨
  ∃ g cap cur, v = .slice (some ⟨g, 0, none⟩) l.length cap ∧ R = [(g, .cells cur e (0, 0))] ∧ l.length ≤ cap ∧ cap ≤ maxLen ∧ cur.size = cap * k ∧ cur.toList.take (l.length * k) = (l.map enc).flatten
theorem jt {α : Type} {enc : α → List Value} {k : Nat} (hk : ∀ x, (enc x).length = k) : ∀ l : List α, (l.map enc).flatten.length = l.length * k
  | [] => by simp
  | x :: l => by simp [jt hk l, hk x, Nat.add_mul, Nat.add_comm]
theorem qb {α : Type} {enc : α → List Value} {k : Nat} (hk : ∀ x, (enc x).length = k) : ∀ (l : List α) (i : Nat) (x : α), l[i]? = some x → ∀ j y, (enc x)[j]? = some y → (l.map enc).flatten[i * k + j]? = some y
  | [], i, x, h => by cases h
  | z :: l, 0, x, h => by
    simp at h; subst h
    intro j y a
    have b : j < (enc z).length := (List.getElem?_eq_some_iff.1 a).1
    simp [List.getElem?_append, b]
    rw [List.getElem?_eq_getElem b] at a
    simpa using a
  | z :: l, i + 1, x, h => by
    intro j y a
    have := qb hk l i x (by simpa using h) j y a
    simp only [List.map_cons, List.flatten_cons]
    rw [List.getElem?_append_right (by rw [hk z]; have := Nat.le_mul_of_pos_left k (Nat.succ_pos i); simp [Nat.add_mul] at *; omega), hk z]
    rw [show (i + 1) * k + j - k = i * k + j by rw [Nat.add_mul]; omega]
    exact this
theorem AI {α : Type} {enc : α → List Value} {k : Nat} (hk : ∀ x, (enc x).length = k) : ∀ (l : List α) (q : Nat) (y : Value), (l.map enc).flatten[q]? = some y → ∃ i x j, l[i]? = some x ∧ (enc x)[j]? = some y ∧ q = i * k + j
  | [], q, y, h => by simp at h
  | z :: l, q, y, h => by
    simp only [List.map_cons, List.flatten_cons] at h
    by_cases b : q < k
    · rw [List.getElem?_append_left (by rw [hk]; exact b)] at h
      exact ⟨0, z, q, rfl, h, by simp⟩
    · rw [List.getElem?_append_right (by rw [hk]; omega), hk] at h
      obtain ⟨i, x, j, h1, a, d⟩ := AI hk l (q - k) y h
      exact ⟨i + 1, x, j, by simpa using h1, a, by rw [Nat.add_mul]; omega⟩
theorem bG.nil {α : Type} (e : TypeId) (enc : α → List Value) (k : Nat) : bG e enc k (.slice none 0 0) [] [] := .inl ⟨rfl, rfl, rfl⟩
theorem bG.sl {α : Type} {e : TypeId} {enc : α → List Value} {k : Nat} {v : Value} {l : List α} {R : List (Nat × Obj)} {m : bW} (h : bG e enc k v l R) (hk : ∀ x, (enc x).length = k) (hm : ∀ b o, (b, o) ∈ R → m b = some o) : Sl (Pl enc) k m v l := by
  rcases h with ⟨rfl, rfl, rfl⟩ | ⟨g, cap, cur, rfl, rfl, h1, d, r, n⟩
  · exact Sl.nil _ _ _
  · refine ⟨_, cap, rfl, h1, d, fun _ => ⟨g, 0, cur, e, (0, 0), rfl, hm _ _ (by simp), fun i x p => ⟨enc x, hk x, rfl, fun j y q => ?_⟩⟩⟩
    have := qb hk l i x p j y q
    rw [← n] at this
    have a : i * k + j < l.length * k := by
      have := (List.getElem?_eq_some_iff.1 this).1
      simp at this; omega
    rw [List.getElem?_take_of_lt a] at this
    simpa using this
theorem bG.len {α : Type} {e : TypeId} {enc : α → List Value} {k : Nat} {v : Value} {l : List α} {R : List (Nat × Obj)} (h : bG e enc k v l R) : l.length ≤ 9223372036854775807 := by
  rcases h with ⟨rfl, rfl, rfl⟩ | ⟨g, cap, cur, rfl, rfl, h1, a, b, d⟩
  · simp
  · unfold maxLen at a; omega
theorem bG.fr {α : Type} {e : TypeId} {enc : α → List Value} {k : Nat} {v : Value} {l : List α} {R X Y : List (Nat × Obj)} (h : bG e enc k v l R) (a : ST dd cA w W μ (X ++ (R ++ Y))) : Fr w.heap.size v := by
  rcases h with ⟨rfl, rfl, rfl⟩ | ⟨g, cap, cur, rfl, rfl, h1, i, j, m⟩
  · exact Fr.nil _
  · intro b d
    simp [Value.ownBlock] at d
    subst d
    rcases (a.box g _ (by simp; exact .inr (.inl rfl))).2.2 with h | h
    · exact h
    · exact h.elim
theorem bG.lit {α : Type} {e : TypeId} {enc : α → List Value} {k b m : Nat} {l : List α} {cs : Array Value} (hm : l.length = m) (d : m ≤ maxLen) (g : cs.toList = (l.map enc).flatten) (a : cs.size = m * k) : bG e enc k (.slice (some ⟨b, 0, none⟩) m m) l [(b, .cells cs e (0, 0))] := by
  subst hm
  refine .inr ⟨b, _, cs, rfl, rfl, Nat.le_refl _, d, a, ?_⟩
  rw [← g, ← a]
  exact List.take_of_length_le (by rw [Array.length_toList]; exact Nat.le_refl _)
def eT {α : Type} (a : Nat) (l m : List α) : Option (List α) := if (l.length + m.length) * a ≤ 140737488355328 ∧ l.length + m.length ≤ maxLen then some (l ++ m) else none
theorem D2 {K : Value → World → Prop} {α : Type} {e t : TypeId} {enc : α → List Value} {k aa : Nat} {z v vs : Value} {l m r : List α} {R : List (Nat × Obj)} (X : List (Nat × Obj)) {Y : List (Nat × Obj)} {x y : Operand} {i : TypeInfo} (p : ST dd F w W μ (X ++ (R ++ Y))) (hk : ∀ x, (enc x).length = k) (b1 : 0 < k) (h1 : ∀ x, ∀ u ∈ enc x, u.oneCell' = true) (ht : P.underlying t = some (.slice e)) (hi : P.info? e = some i) (hz : i.zero = some z) (b5 : z.cells.size = k) (b2 : i.size = k) (aE : i.bytes = aa) (hx : aS E x = v) (hy : aS E y = vs) (hR : bG e enc k v l R) (hs : Sl (Pl enc) k (hp W) vs m) (n : eT aa l m = some r) (h : ∀ W' v' R', ST dd F w W' μ (X ++ (R' ++ Y)) → bG e enc k v' r R' → K v' W') : fT P E ⟨d, .call ⟨.builtin .append, #[x, y], #[t, t]⟩, ty, pos, af, g⟩ W K := by
  unfold eT at n
  split at n
  case isFalse => cases n
  rename_i ai
  cases n
  have a8 : ∀ (V : Value) (W' : World), (Builtin.append_ #[t, t] ty #[v, vs]).run P W = .ok V W' → (execOp (aS E) ⟨d, .call ⟨.builtin .append, #[x, y], #[t, t]⟩, ty, pos, af, g⟩).run P W = .ok (.value V) W' := by
    intro V W' hV
    show (do let d ← resolve (aS E) ⟨.builtin .append, #[x, y], #[t, t]⟩ ty; invoke d.target d.args : Sem Next).run P W = _
    simp [resolve, invoke, builtin, hx, hy, hV]
  obtain ⟨A, c, rfl, b9, ba, b0⟩ := hs
  have a7 : W.ownsRow 0 e k v l.length (l.map enc).flatten := by
    refine ⟨jt hk l, ?_⟩
    rcases hR with ⟨rfl, rfl, rfl⟩ | ⟨g, cap, cur, rfl, rfl, h1, h2, h3, h4⟩
    · exact .inl ⟨rfl, rfl⟩
    · exact .inr ⟨g, cap, cur, rfl, Nat.zero_le _, (p.box g _ (by simp)).1, h1, h2, h3, h4⟩
  have ar : m.length = 0 ∨ ∃ ad, A = some ad ∧ ∀ j u, (m.map enc).flatten[j]? = some u → W.cell? (ad.add j) = some u := by
    rcases Nat.eq_zero_or_pos m.length with L | L
    · exact .inl L
    · obtain ⟨b, off, cs, T, fr, rfl, h6, h7⟩ := b0 L
      refine .inr ⟨⟨b, off, none⟩, rfl, fun j u hu => ?_⟩
      obtain ⟨i, x, q, h8, h9, rfl⟩ := AI hk m j u hu
      obtain ⟨ys, _, av, aw⟩ := h7 i x h8
      cases av
      rw [Addr.add_lit, cell_of_row W b (off + (i * k + q)) cs T fr h6, ← Nat.add_assoc]
      exact aw q u h9
  have aq : ∀ u ∈ (m.map enc).flatten, u.oneCell' = true := by
    intro u hu
    obtain ⟨ys, b4, b3⟩ := List.mem_flatten.1 hu
    obtain ⟨x, _, rfl⟩ := List.mem_map.1 b4
    exact h1 x u b3
  by_cases an : m.length = 0
  · have hm : m = [] := List.eq_nil_of_length_eq_zero an
    subst hm
    have hr : (Builtin.append_ #[t, t] ty #[v, .slice A 0 c]).run P W = .ok v W := by
      rcases a7.2 with ⟨rfl, L⟩ | ⟨g, cap, cur, rfl, _, hg, ao, _, bb, _⟩
      · cases A with
        | none => simp [Builtin.append_, run_underlying ht, sizeOf, typeInfo, hi, Builtin.lenOf, Builtin.firstCells]
        | some ad => simp [Builtin.append_, run_underlying ht, sizeOf, typeInfo, hi, Builtin.lenOf, Builtin.firstCells, loadCells, loadCellsFrom]
      · cases A with
        | none => simp [Builtin.append_, run_underlying ht, sizeOf, typeInfo, hi, Builtin.lenOf, Builtin.firstCells, ao, storeCells]
        | some ad => simp [Builtin.append_, run_underlying ht, sizeOf, typeInfo, hi, Builtin.lenOf, Builtin.firstCells, loadCells, loadCellsFrom, ao, storeCells]
    exact .inl ⟨v, W, a8 _ _ (by simpa using hr), by simpa using h W v R p (by simpa using hR)⟩
  rcases ar with L | ⟨ad, rfl, Z⟩
  · exact absurd L an
  obtain ⟨v', W', hr, ag, s, b7, J⟩ := run_append_own_at (P := P) W 0 t ty e i z k aa ht hi hz b2 aE b5 b1 v l.length (l.map enc).flatten a7 ad m.length c (m.map enc).flatten (jt hk m) Z aq ai.2 ai.1 (Nat.zero_le _)
  have ab := iy _ _ _ _ hr
  refine .inl ⟨v', W', a8 _ _ hr, ?_⟩
  have hlen : (l ++ m).length = l.length + m.length := by simp
  rcases ag.2 with ⟨_, L⟩ | ⟨O, a1, a6, rfl, _, ae, b6, aj, ak, au⟩
  · omega
  have ah : bG e enc k (.slice (some ⟨O, 0, none⟩) (l.length + m.length) a1) (l ++ m) [(O, .cells a6 e (0, 0))] :=
    .inr ⟨O, a1, a6, by rw [hlen], rfl, by omega, aj, ak, by rw [hlen, au]; simp⟩
  refine h W' _ _ ?_ ah
  have ap := p.nd
  rcases hR with ⟨rfl, rfl, rfl⟩ | ⟨g, cap, cur, rfl, rfl, q1, q2, q3, q4⟩
  · -- nil: a new block
    have Q : W.heap.size ≤ O := by
      rcases J with h | h <;> simp [Value.ownBlock] at h
      omega
    have hex : Ex dd W W' := ⟨s.os, s.tape, s.output, nw.of ab, s.size, fun b n => s.block b n (by simp [Value.ownBlock])⟩
    have h1 := p.DO hex
    refine ⟨h1.os, h1.tape, h1.output, h1.drawn, h1.size, h1.eP, h1.mem, fun b o n => ?_, ?_⟩
    · simp only [List.mem_append, List.mem_singleton] at n
      rcases n with n | n | n
      · exact h1.box b o (by simp [n])
      · cases n
        refine ⟨ae, ?_, .inl (Nat.le_trans p.size Q)⟩
        cases hm : μ O with
        | none => rfl
        | some x => have := p.zA hm; omega
      · exact h1.box b o (by simp [n])
    · simp only [List.nil_append, List.map_append, List.map_cons, List.singleton_append] at ap ⊢
      refine (List.Perm.nodup_iff List.perm_middle).2 (List.nodup_cons.2 ⟨fun hm => ?_, ap⟩)
      rw [← List.map_append] at hm
      obtain ⟨⟨b, o⟩, n, I⟩ := List.mem_map.1 hm
      have az : (b, o) ∈ X ++ ([] ++ Y) := by simpa using n
      have := p.BS az
      simp at I
      omega
  · by_cases al : O = g
    · subst al
      have L : ST dd F w W μ (X ++ (O, Obj.cells cur e (0, 0)) :: Y) := by simpa using p
      have hold : ∀ b, b < W.heap.size → b ≠ O → W'.heap[b]? = W.heap[b]? := fun b n G => s.block b n (by simp [Value.ownBlock]; exact G)
      have D := L.nd
      simp only [List.map_append, List.map_cons] at D
      have G : ∀ b o, (b, o) ∈ X ++ Y → b ≠ O := fun b o n I => by
        subst I
        rcases List.mem_append.1 n with n | n
        · exact (List.nodup_append.1 D).2.2 b (List.mem_map.2 ⟨_, n, rfl⟩) b (by simp) rfl
        · exact (List.nodup_cons.1 (List.nodup_append.1 D).2.1).1 (List.mem_map.2 ⟨_, n, rfl⟩)
      have M := L.box O (Obj.cells cur e (0, 0)) (by simp)
      refine ⟨s.os.trans p.os, s.tape.trans p.tape, s.output.trans p.output, nw.trans p.drawn (nw.of ab), Nat.le_trans p.size s.size, fun b n hF => ?_, fun b o n => ?_, fun b o n => ?_, by simpa using D⟩
      · rw [hold b (Nat.lt_of_lt_of_le n p.size) (fun I => by subst I; rcases M.2.2 with h | h; omega; exact hF h)]
        exact p.eP b n hF
      · rw [hold b (p.zA n) (fun I => by subst I; rw [M.2.1] at n; cases n)]
        exact p.mem b o n
      · simp only [List.mem_append, List.mem_singleton] at n
        rcases n with n | n | n
        · obtain ⟨U, r2⟩ := p.box b o (by simp [n])
          exact ⟨by rw [hold b (gD U) (G b o (by simp [n]))]; exact U, r2⟩
        · cases n; exact ⟨ae, M.2⟩
        · obtain ⟨U, r2⟩ := p.box b o (by simp [n])
          exact ⟨by rw [hold b (gD U) (G b o (by simp [n]))]; exact U, r2⟩
    · have Q : W.heap.size ≤ O := by
        rcases J with h | h <;> simp [Value.ownBlock] at h
        · exact absurd h al
        · omega
      have L : ST dd F w W μ (X ++ (g, Obj.cells cur e (0, 0)) :: Y) := by simpa using p
      have M := L.box g (Obj.cells cur e (0, 0)) (by simp)
      have D := L.nd
      simp only [List.map_append, List.map_cons] at D
      have G : ∀ b o, (b, o) ∈ X ++ Y → b ≠ g := fun b o n I => by
        subst I
        rcases List.mem_append.1 n with n | n
        · exact (List.nodup_append.1 D).2.2 b (List.mem_map.2 ⟨_, n, rfl⟩) b (by simp) rfl
        · exact (List.nodup_cons.1 (List.nodup_append.1 D).2.1).1 (List.mem_map.2 ⟨_, n, rfl⟩)
      have hold : ∀ b, b < W.heap.size → b ≠ g → W'.heap[b]? = W.heap[b]? := fun b n G => s.block b n (by simp [Value.ownBlock]; exact G)
      refine ⟨s.os.trans p.os, s.tape.trans p.tape, s.output.trans p.output, nw.trans p.drawn (nw.of ab), Nat.le_trans p.size s.size, fun b n hF => ?_, fun b o n => ?_, fun b o n => ?_, ?_⟩
      · rw [hold b (Nat.lt_of_lt_of_le n p.size) (fun I => by subst I; rcases M.2.2 with h | h; omega; exact hF h)]
        exact p.eP b n hF
      · rw [hold b (p.zA n) (fun I => by subst I; rw [M.2.1] at n; cases n)]
        exact p.mem b o n
      · simp only [List.mem_append, List.mem_singleton] at n
        rcases n with n | n | n
        · obtain ⟨U, r2⟩ := p.box b o (by simp [n])
          exact ⟨by rw [hold b (gD U) (G b o (by simp [n]))]; exact U, r2⟩
        · cases n
          refine ⟨ae, ?_, .inl (Nat.le_trans p.size Q)⟩
          cases hm : μ O with
          | none => rfl
          | some x => have := p.zA hm; omega
        · obtain ⟨U, r2⟩ := p.box b o (by simp [n])
          exact ⟨by rw [hold b (gD U) (G b o (by simp [n]))]; exact U, r2⟩
      · have ay : (X.map (·.1) ++ Y.map (·.1)).Nodup := (List.nodup_cons.1 ((List.Perm.nodup_iff List.perm_middle).1 D)).2
        simp only [List.map_append, List.map_cons, List.singleton_append]
        refine (List.Perm.nodup_iff List.perm_middle).2 (List.nodup_cons.2 ⟨fun hm => ?_, ay⟩)
        rw [← List.map_append] at hm
        obtain ⟨⟨b, o⟩, n, I⟩ := List.mem_map.1 hm
        have := p.BS (b := b) (o := o) (by rcases List.mem_append.1 n with h | h <;> simp [h])
        simp at I
        omega
end
end Go.Proofs.YtmlncblocfcmiaaGreat
namespace Go.Proofs.YtmlncblocfcmiaaGreat
open Go.RowKit
def xe (l : List Value) : Nat → Value := fun t => l.getD t undef
def ru (P : Program) (fn : Func) (R : Ending → World → Prop) : ko
  | .normal, E, W | .ret, E, W => ∃ v, (∀ tmps : Array Value, (∀ t, tmps.getD t undef = E t) → (results fn tmps).run P W = .ok v W) ∧ R (.returned v) W
  | _, _, _ => False
theorem tK {P : Program} {f : FuncId} {fn : Func} {c : Code} {args : List Value} {w : World} {R : Ending → World → Prop} {n : Nat} (p : P.funcs[f]? = some fn) (m : fn.body = some c) (q : fn.ntmps = n) (ha : args.length ≤ n) (h : CW P n c (ru P fn R) (xe args) w) : Calls P f args.toArray w R := by
  refine calls_of_wp p m ?_
  have i : Ag n { tmps := args.toArray ++ Array.replicate (fn.ntmps - args.toArray.size) undef, defers := [] } (xe args) := by
    refine ⟨by simp; omega, rfl, fun t => ?_⟩
    simp only [xe, Array.getD_eq_getD_getElem?, List.getD_eq_getElem?_getD, Array.getElem?_append, Array.getElem?_replicate, List.size_toArray, List.getElem?_toArray]
    by_cases k : t < args.length
    · rw [if_pos k]
    · rw [if_neg k, List.getElem?_eq_none (by omega)]
      split <;> simp
  refine wp_mono (h _ i) (fun e a r d => ?_)
  cases e with
  | normal =>
    obtain ⟨E, b, v, j, g⟩ := d
    exact ⟨b.2.1, v, j _ b.2.2, g⟩
  | ret =>
    obtain ⟨E, b, v, j, g⟩ := d
    exact ⟨b.2.1, v, j _ b.2.2, g⟩
  | exit id => obtain ⟨E, b, h⟩ := d; exact h.elim
  | goto l => obtain ⟨E, b, h⟩ := d; exact h.elim
  | panic c => exact d.elim
  | outgrown => exact d.elim
section
variable {P : Program} {fn : Func} {R : Ending → World → Prop} {E : Nat → Value} {W : World}
theorem dH {r : Tmp} {v : Value} (a : fn.results = #[.tmp r]) (d : E r = v) (h : R (.returned v) W) : ru P fn R .ret E W :=
  ⟨v, fun tmps b => by rw [results_tmp a, b, d], h⟩
theorem uQ {r s : Tmp} {v u : Value} (b : fn.results = #[.tmp r, .tmp s]) (d : E r = v) (hu : E s = u) (h : R (.returned (.tuple #[v, u])) W) : ru P fn R .ret E W :=
  ⟨.tuple #[v, u], fun tmps a => by rw [results_tmp2 b, a, a, d, hu], h⟩
theorem iC (a : fn.results = #[]) (h : R (.returned (.tuple #[])) W) : ru P fn R .ret E W :=
  ⟨.tuple #[], fun tmps _ => by rw [results_none a], h⟩
theorem fA {r : Tmp} {t : TypeId} {a : Addr} {v : Value} (b : fn.results = #[.cell r t]) (i : E r = .pointer (some a)) (g : (Instr.loadAt t (.pointer (some a))).run P W = .ok v W) (h : R (.returned v) W) : ru P fn R .ret E W :=
  ⟨v, fun tmps d => by
    have h1 : (loadVar t a).run P W = .ok v W := by simpa [Instr.loadAt, Instr.sureAddr] using g
    simp [results, b, d, i, asAddr, h1], h⟩
theorem jW (h : ru P fn R .ret E W) : ru P fn R .normal E W := h
end
section
variable {Q : ko} {E : Nat → Value} {W : World} {K : (Nat → Value) → World → Prop} {id j : Nat}
theorem bY (h : Q .normal E W) : pS id Q .normal E W := h
theorem eF (h : Q .ret E W) : pS id Q .ret E W := h
theorem kz (h : Q .normal E W) : pS id Q (.exit id) E W := by simp [pS]; exact h
theorem Lp (a : (j = id) = False) (h : Q (.exit j) E W) : pS id Q (.exit j) E W := by simp only [pS, a, if_false]; exact h
theorem aR (h : K E W) : kc K Q .normal E W := h
theorem bU (h : Q .ret E W) : kc K Q .ret E W := h
theorem fD (h : Q (.exit j) E W) : kc K Q (.exit j) E W := h
end
theorem HB {i N : Nat} (b : i < N) (a : N ≤ 9223372036854775807) : IntKind.i64.wrap ((i : Int) + 1) = ((i + 1 : Nat) : Int) := by
  rw [IntWalk.i64_in _ (by omega)]
  omega
theorem cK {P : Program} {n : Nat} {Q : ko} {E : Nat → Value} {W : World} {g s U Y p q A u : Nat} {t1 t2 t3 t4 t5 t6 t7 : TypeId} {O R T : String} {f1 f2 f3 : Array Edge} {body : Code} (I : Nat → (Nat → Value) → World → Prop) (N : Nat) (J : N ≤ 9223372036854775807) (D : I 0 E W) (L : p < n) (M : u < n) (z : q < n) (G : ∀ i E W, I i E W → E q = .int .i64 (i : Nat) ∧ E A = .int .i64 (N : Nat)) (round : ∀ i E W, i < N → I i E W → CW P n (.block s body) (kc (fun E' W' => E' q = .int .i64 (i : Nat) ∧ I (i + 1) (gB (gB E' u (.int .i64 ((i + 1 : Nat) : Int))) q (.int .i64 ((i + 1 : Nat) : Int))) W') (pS g Q)) (gB E p (.bool true)) W) (done : ∀ E W, I N E W → Q .normal (gB E p (.bool false)) W) :
    CW P n (.block g (.loop (.seq (.region U #[⟨some p, .binOp .lss t1 (.tmp q) (.tmp A) t2, t3, O, f1, none⟩] false)
      (.seq (.cond (.tmp p) .skip (.exit g)) (.seq (.block s body)
        (.region Y #[⟨some u, .binOp .add t4 (.tmp q) (.const (.int .i64 1)) t5, t6, R, f2, none⟩, ⟨some q, .move (.tmp u), t7, T, f3, none⟩] false)))))) Q E W := by
  refine dN (fB (fun m E W => ∃ i, i ≤ N ∧ m = N - i ∧ I i E W) N ⟨0, Nat.zero_le _, by omega, D⟩ ?_)
  rintro m E W ⟨i, Z, rfl, d⟩
  obtain ⟨w, x⟩ := G i E W d
  refine aW (aU (B6 (.inl rfl) rfl L (cF w x rfl) (bK ?_)))
  refine aR (aW ?_)
  have t : gB E p (.bool (decide ((i : Int) < (N : Int)))) p = .bool (decide ((i : Int) < (N : Int))) := by simp [gB]
  by_cases r : i < N
  · have y : decide ((i : Int) < (N : Int)) = true := by simp; omega
    rw [y] at t ⊢
    refine qh t (cZ (aR (aW ?_)))
    refine Ca (round i E W r d) (fun e E' W' h => ?_)
    cases e with
    | normal =>
      obtain ⟨h1, F⟩ := h
      refine aR ?_
      have hw : IntKind.i64.wrap ((i : Int) + 1) = ((i + 1 : Nat) : Int) := HB r J
      refine aU (B6 (v := .int .i64 ((i + 1 : Nat) : Int)) (.inl rfl) rfl M (cF (k := .i64) (a := (i : Int)) (b := 1) h1 rfl (by simp only [DN, hw])) ?_)
      refine B6 (v := .int .i64 ((i + 1 : Nat) : Int)) (.inl rfl) rfl z (aQ (by simp [aS, gB])) (bK ?_)
      exact aR ⟨N - (i + 1), by omega, i + 1, by omega, rfl, F⟩
    | exit j => exact h
    | goto l => exact h
    | ret => exact h
    | panic c => exact h
    | outgrown => exact h
  · have y : decide ((i : Int) < (N : Int)) = false := by simp; omega
    rw [y] at t ⊢
    obtain rfl : i = N := by omega
    refine lI t (fI (fD (fD (kz ?_))))
    exact done E W d
theorem G6 {P : Program} {n : Nat} {x : Code} {Q : ko} {K : (Nat → Value) → World → Prop} {E : Nat → Value} {W : World} (J : (Nat → Value) → World → Prop) (h : CW P n x (kc J Q) E W) (k : ∀ E W, J E W → K E W) : CW P n x (kc K Q) E W :=
  Ca h (fun e E W h => by cases e <;> first | exact k E W h | exact h)
theorem Ls {α : Type} {c : Bool} {x y r : α} (a : c = true) (h : (if c = true then x else y) = r) : x = r := by rw [if_pos a] at h; exact h
theorem Lj {α : Type} {c : Bool} {x y r : α} (a : c = false) (h : (if c = true then x else y) = r) : y = r := by rw [if_neg (by rw [a]; decide)] at h; exact h
theorem bind_some {α β : Type} {o : Option α} {f : α → Option β} {r : β} (h : o.bind f = some r) : ∃ y, o = some y ∧ f y = some r := by
  cases o with
  | none => cases h
  | some y => exact ⟨y, rfl, h⟩
theorem GB (b : Bool) : b = true ∨ b = false := by cases b <;> simp
theorem cC {α : Type} {l : List α} {i : Nat} (h : i < l.length) : ∃ x xs, l.drop i = x :: xs ∧ l[i]? = some x ∧ l.drop (i + 1) = xs := by
  cases a : l.drop i with
  | nil => have := congrArg List.length a; simp at this; omega
  | cons x xs => exact ⟨x, xs, rfl, by rw [← List.head?_drop, a]; rfl, by rw [← List.drop_drop, a]; rfl⟩
theorem yc {P : Program} {W : World} (d : Nat) (xs ys : Array Value) : (Op.eqFields d xs ys []).run P W = .ok true W := by simp [Op.eqFields]
theorem kJ {P : Program} {W : World} {d : Nat} {xs ys : Array Value} {f : Field} {fs : List Field} {a b : Value} {r s : Bool} (i : f.name ≠ "_") (ha : (part f.type xs f.offset).run P W = .ok a W) (g : (part f.type ys f.offset).run P W = .ok b W) (he : (Op.equalIn d f.type a b).run P W = .ok r W) (h : (Op.eqFields d xs ys fs).run P W = .ok s W) : (Op.eqFields d xs ys (f :: fs)).run P W = .ok (r && s) W := by
  simp only [Op.eqFields, ne_eq, i, not_false_eq_true, if_true, Sem.run_bind, ha, g, he, Result.andThen_ok]
  cases r <;> simp [h]
theorem sV {P : Program} {W : World} {t : TypeId} {k : Nat} {cs : Array Value} {off : Nat} {v : Array Value} (a : ∀ w, (isAgg t).run P w = .ok true w) (b : ∀ w, (sizeOf t).run P w = .ok k w) (d : cs.extract off (off + k) = v) : (part t cs off).run P W = .ok (.agg v) W := by
  simp [part, a W, b W, d]
theorem mi {P : Program} {W : World} {t : TypeId} {cs : Array Value} {off : Nat} {v : Value} (a : ∀ w, (isAgg t).run P w = .ok false w) (b : cs[off]? = some v) : (part t cs off).run P W = .ok v W := by
  simp [part, a W, b]
def dA (a b : ByteArray) : Bool := a.toList == b.toList
theorem Jt {P : Program} {t : TypeId} (g : P.underlying t = some .string) (d : Nat) (a b : ByteArray) (W : World) : (Op.equalIn (d + 1) t (.string a) (.string b)).run P W = .ok (dA a b) W := run_equalIn_string W d t a b g
theorem M6 {P : Program} {t : TypeId} {k : IntKind} (g : P.underlying t = some (.int k)) (d : Nat) (a b : Int) (W : World) : (Op.equalIn (d + 1) t (.int k a) (.int k b)).run P W = .ok (a == b) W := run_equalIn_int W d t k k a b g
theorem fS {P : Program} {op : BinOp} {t : TypeId} {x y : Operand} {a b : Array Value} (d : P.eqGuardType P.depth t = false) (W : World) : (eqGuard op t x y (.agg a) (.agg b)).run P W = .ok () W := by
  cases op <;> simp [eqGuard] <;> (intro h; rw [d] at h; cases h)
theorem kC {P : Program} {t : TypeId} {a b : Array Value} {r : Bool} (h : ∀ W, (Op.equalIn Op.maxDepth t (.agg a) (.agg b)).run P W = .ok r W) (W : World) : (binOp .eql t (.agg a) (.agg b)).run P W = .ok (.bool r) W := by
  simp [binOp, Op.equal, h W]
theorem wM {P : Program} {t : TypeId} {a b : Array Value} {r : Bool} (h : ∀ W, (Op.equalIn Op.maxDepth t (.agg a) (.agg b)).run P W = .ok r W) (W : World) : (binOp .neq t (.agg a) (.agg b)).run P W = .ok (.bool !r) W := by
  simp [binOp, Op.equal, h W]
end Go.Proofs.YtmlncblocfcmiaaGreat
namespace Go.Proofs.YtmlncblocfcmiaaGreat
open Go.RowKit
variable {dd : Bool}
def dM (k : IntKind) (x : Int) : List Value := [.int k x]
def Lt (x : Bool) : List Value := [.bool x]
def mJ (x : ByteArray) : List Value := [.string x]
theorem Aw (k : IntKind) (x : Int) : ∀ u ∈ dM k x, u.oneCell' = true := by intro u hu; simp [dM] at hu; subst hu; rfl
theorem MM (x : Bool) : ∀ u ∈ Lt x, u.oneCell' = true := by intro u hu; simp [Lt] at hu; subst hu; rfl
theorem Gt (x : ByteArray) : ∀ u ∈ mJ x, u.oneCell' = true := by intro u hu; simp [mJ] at hu; subst hu; rfl
def zS : ByteArray := ⟨#[]⟩
def jB (a b : ByteArray) : Bool := Op.bytesLess a.toList b.toList
@[irreducible] def bL : Nat := 18446744073709551616
theorem qz : bL = 18446744073709551616 := by unfold bL; rfl
def dU {α : Type} (l : List α) (i : Int) : Option α := if 0 ≤ i then l[i.toNat]? else none
theorem bV {α : Type} {l : List α} {i : Int} {x : α} (h : dU l i = some x) : 0 ≤ i := by
  unfold dU at h; split at h
  · assumption
  · cases h
theorem bQ {α : Type} {l : List α} {i : Int} {x : α} (h : dU l i = some x) : l[i.toNat]? = some x := by
  unfold dU at h; split at h
  · exact h
  · cases h
theorem zt {α : Type} (l : List α) (i : Nat) : dU l (i : Int) = l[i]? := by simp [dU]
def um (s : ByteArray) (i : Int) : Option UInt8 := if 0 ≤ i then s[i.toNat]? else none
theorem tH {s : ByteArray} {i : Int} {x : UInt8} (h : um s i = some x) : 0 ≤ i := by
  unfold um at h; split at h
  · assumption
  · cases h
theorem xr {s : ByteArray} {i : Int} {x : UInt8} (h : um s i = some x) : s[i.toNat]? = some x := by
  unfold um at h; split at h
  · exact h
  · cases h
section
variable {F : Nat → Prop} {w W : World} {μ : bW} {L L' : List (Nat × Obj)} {α : Type} {e : TypeId} {enc : α → List Value} {k : Nat} {v : Value} {l : List α} {R : List (Nat × Obj)}
theorem ST.at_ (h : ST dd F w W μ L) {b : Nat} {o : Obj} (a : (b, o) ∈ L) : hp W b = some o := (h.box b o a).1
theorem bG.ML (h : bG e enc k v l R) (hk : ∀ x, (enc x).length = k) (a : ST dd F w W μ L) (b : ∀ p, p ∈ R → p ∈ L) : Sl (Pl enc) k (hp W) v l :=
  h.sl hk (fun _ _ d => a.at_ (b _ d))
theorem bG.form (h : bG e enc k v l R) : ∃ A c, v = .slice A l.length c := by
  rcases h with ⟨rfl, rfl, rfl⟩ | ⟨g, cap, cur, rfl, rfl, h1, a, b, d⟩
  · exact ⟨_, _, rfl⟩
  · exact ⟨_, _, rfl⟩
theorem Sl.form {R : jq α} (h : Sl R k μ v l) : ∃ A c, v = .slice A l.length c := let ⟨A, c, h, _⟩ := h; ⟨A, c, h⟩
theorem Sl.lit {b m : Nat} {cs : Array Value} (hk : ∀ x, (enc x).length = k) (hm : l.length = m) (d : m ≤ maxLen) (a : cs.toList = (l.map enc).flatten) (g : μ b = some (.cells cs e (0, 0))) : Sl (Pl enc) k μ (.slice (some ⟨b, 0, none⟩) m m) l :=
  (bG.lit (e := e) (b := b) hm d a (by have := congrArg List.length a; rw [jt hk, Array.length_toList, hm] at this; exact this)).sl hk (fun i o h => by simp at h; obtain ⟨rfl, rfl⟩ := h; exact g)
theorem Fr.box (h : ST dd cA w W μ L) {b m c : Nat} {o : Obj} (d : (b, o) ∈ L) : Fr w.heap.size (.slice (some ⟨b, 0, none⟩) m c) := by
  intro g a
  simp [Value.ownBlock] at a
  subst a
  rcases (h.box b o d).2.2 with h | h
  · exact h
  · exact h.elim
theorem ST.perm (h : ST dd F w W μ L) (hp : L.Perm L') : ST dd F w W μ L' :=
  ⟨h.os, h.tape, h.output, h.drawn, h.size, h.eP, h.mem, fun b o a => h.box b o (hp.mem_iff.2 a), (hp.map _).nodup_iff.1 h.nd⟩
theorem ST.sublist (h : ST dd F w W μ L) (a : L'.Sublist L) : ST dd F w W μ L' :=
  ⟨h.os, h.tape, h.output, h.drawn, h.size, h.eP, h.mem, fun b o d => h.box b o (a.subset d), h.nd.sublist (a.map _)⟩
end
section
variable {E : Nat → Value} {x1 x2 x3 x4 x5 x6 : Operand} {v1 v2 v3 v4 v5 v6 : Value}
theorem nK (h1 : aS E x1 = v1) : #[x1].map (aS E) ++ (#[] : Array Value) = [v1].toArray := by simp [h1]
theorem pC (h1 : aS E x1 = v1) (a : aS E x2 = v2) : #[x1, x2].map (aS E) ++ (#[] : Array Value) = [v1, v2].toArray := by simp [h1, a]
end
theorem Dc : ∀ (v : List Value) (i off : Nat) (cells : Array Value), off + i + v.length ≤ cells.size →
    (v.zipIdx i).foldl (fun cs (c, j) => cs.setIfInBounds (off + j) c) cells = (cells.toList.take (off + i) ++ v ++ cells.toList.drop (off + i + v.length)).toArray
  | [], i, off, cells, h => by simp
  | c :: v, i, off, cells, h => by
    simp only [List.zipIdx_cons, List.foldl_cons]
    simp only [List.length_cons] at h
    rw [Dc v (i + 1) off _ (by simp; omega)]
    have d : off + i < cells.toList.length := by simp; omega
    congr 1
    rw [Array.toList_setIfInBounds]
    apply List.ext_getElem?
    intro j
    have g : (cells.toList.take (off + i)).length = off + i := by simp; omega
    by_cases h1 : j < off + i
    · simp only [List.getElem?_append, List.length_append, List.length_take, List.length_set, Array.length_toList, List.length_cons, List.getElem?_take, List.getElem?_set, List.getElem?_drop]
      rw [show min (off + (i + 1)) cells.size = off + (i + 1) by omega, show min (off + i) cells.size = off + i by omega]
      rw [if_pos (by omega), if_pos (by omega), if_pos (by omega), if_neg (by omega), if_pos (by omega), if_pos (by omega), if_pos (by omega)]
    · by_cases b : j = off + i
      · subst b
        simp [List.getElem?_append, List.getElem?_take, List.getElem?_set, show off + i < off + (i + 1) by omega]
        rw [if_pos (by omega), if_pos (by omega), if_neg (by omega), show off + i - min (off + i) cells.size = 0 by omega]
        rfl
      · simp only [List.getElem?_append, List.length_append, List.length_take, List.length_set, Array.length_toList, List.length_cons, List.getElem?_take, List.getElem?_set, List.getElem?_drop]
        rw [show min (off + (i + 1)) cells.size = off + (i + 1) by omega, show min (off + i) cells.size = off + i by omega]
        by_cases a : j < off + (i + 1) + v.length
        · rw [if_pos a, if_neg (by omega), if_pos (by omega), if_neg (by omega)]
          rw [show j - (off + i) = (j - (off + (i + 1))) + 1 by omega]
          simp
        · rw [if_neg a, if_neg (by omega), if_neg (by omega)]
          congr 1
          omega
theorem EV {k : Nat} : ∀ (vs : List Value) (i : Nat) (pre rest : List Value), (∀ v ∈ vs, v.cells.size = k) → pre.length = i * k → rest.length = vs.length * k →
    Instr.fill (fun i => some (i * k, k)) (pre ++ rest).toArray ((vs.zipIdx i).map (fun p => (p.2, p.1))) = some (pre ++ vs.flatMap (fun v => v.cells.toList)).toArray
  | [], i, pre, rest, d, hp, b => by
    have : rest = [] := by cases rest <;> simp at b ⊢
    simp [Instr.fill, this]
  | v :: vs, i, pre, rest, d, hp, b => by
    have a := d v (by simp)
    have g : v.cells.zipIdx.foldl (fun cs (c, j) => cs.setIfInBounds (i * k + j) c) (pre ++ rest).toArray = (pre ++ v.cells.toList ++ rest.drop k).toArray := by
      have := Dc v.cells.toList 0 (i * k) (pre ++ rest).toArray (by simp [hp, b, a, Nat.add_mul])
      rw [← Array.toList_zipIdx, Array.foldl_toList] at this
      rw [this]
      congr 1
      simp [← hp, a]
    simp only [List.zipIdx_cons, List.map_cons, Instr.fill]
    rw [if_neg (by simp [a, hp, b, Nat.add_mul]), g]
    have := EV vs (i + 1) (pre ++ v.cells.toList) (rest.drop k) (fun u hu => d u (by simp [hu])) (by simp [hp, a, Nat.add_mul]) (by simp [b, Nat.add_mul])
    rw [this]
    simp
theorem IX {k m : Nat} {a cs : Array Value} {b : Array (Nat × Value)} (vs : List Value) (g : b.toList = vs.zipIdx.map (fun p => (p.2, p.1))) (j : ∀ v ∈ vs, v.cells.size = k) (hm : vs.length = m) (h : a.size = m * k) (d : (vs.flatMap (fun v => v.cells.toList)).toArray = cs) : Instr.fill (fun i => some (i * k, k)) a b.toList = some cs := by
  subst hm d
  rw [g]
  have := EV vs 0 [] a.toList j (by simp) (by simpa using h)
  simpa using this
theorem th {P : Program} {t e : TypeId} {m k : Nat} {z : Value} {a : Array (Nat × Value)} {cs : Array Value} (vs : List Value) (i : P.underlying t = some (.slice e)) (h : ∀ w, (sizeOf e).run P w = .ok k w) (l : ∀ w, (zeroValue e).run P w = .ok z w) (hm : m * k ≤ 16777216) (g : a.toList = vs.zipIdx.map (fun p => (p.2, p.1))) (j : ∀ v ∈ vs, v.cells.size = k) (d : vs.length = m) (b : (vs.flatMap (fun v => v.cells.toList)).toArray = cs) (W : World) :
    (Instr.buildSlice t m a).run P W = .ok (.slice (some ⟨W.heap.size, 0, none⟩) m m) (W.alloc (.cells cs e (0, 0))) :=
  Ck i h l hm (IX vs g j d (by simp) b) W
theorem ju {E : Nat → Value}  : (#[] : Array (Nat × Operand)).map (fun (i, x) => (i, aS E x)) = #[] := by simp
theorem dZ {E : Nat → Value} {x0 : Operand} {v0 : Value} {i0 : Nat} (a : aS E x0 = v0) : (#[(i0, x0)] : Array (Nat × Operand)).map (fun (i, x) => (i, aS E x)) = #[(i0, v0)] := by simp [a]
theorem gK {E : Nat → Value} {x0 x1 : Operand} {v0 v1 : Value} {i0 i1 : Nat} (a : aS E x0 = v0) (h1 : aS E x1 = v1) : (#[(i0, x0), (i1, x1)] : Array (Nat × Operand)).map (fun (i, x) => (i, aS E x)) = #[(i0, v0), (i1, v1)] := by simp [a, h1]
theorem yk {E : Nat → Value} {x0 x1 x2 : Operand} {v0 v1 v2 : Value} {i0 i1 i2 : Nat} (a : aS E x0 = v0) (h1 : aS E x1 = v1) (b : aS E x2 = v2) : (#[(i0, x0), (i1, x1), (i2, x2)] : Array (Nat × Operand)).map (fun (i, x) => (i, aS E x)) = #[(i0, v0), (i1, v1), (i2, v2)] := by simp [a, h1, b]
theorem Kt {E : Nat → Value} {x0 x1 x2 x3 : Operand} {v0 v1 v2 v3 : Value} {i0 i1 i2 i3 : Nat} (a : aS E x0 = v0) (h1 : aS E x1 = v1) (b : aS E x2 = v2) (d : aS E x3 = v3) : (#[(i0, x0), (i1, x1), (i2, x2), (i3, x3)] : Array (Nat × Operand)).map (fun (i, x) => (i, aS E x)) = #[(i0, v0), (i1, v1), (i2, v2), (i3, v3)] := by simp [a, h1, b, d]
theorem cV {P : Program} {t : TypeId} {f off : Nat} {fs : Array Field} {fd : Field} (h : P.underlying t = some (.struct fs)) (a : fs[f]? = some fd) {k : Nat} (g : ∀ w, (sizeOf fd.type).run P w = .ok k w) (hk : k ≠ 0) (d : fd.offset = off) : dY P t f off := by
  intro b o w
  subst d
  simp [Instr.fieldAt, run_underlying h, a, Instr.sureAddr, fieldPlace, Addr.add_lit, g w, hk]
theorem Ag.BF {n : Nat} {a : Act} {E : Nat → Value} (h : Ag n a E) {ops : Array Oper} {j t : Nat} (d : (ops[j]?).bind (·.dst) = some t) (i : t < n) (k : E t = undef) : yielded ops a.tmps j = none := by
  have b := h.2.2 t
  have g : a.tmps[t]? = some (E t) := by
    rw [← b]
    simp [Array.getD_eq_getD_getElem?, h.1, i]
  simp [yielded, d, g, k, undef]
theorem KO {P : Program} {n : Nat} {Q : ko} {E : Nat → Value} {W : World} {ops : Array Oper} {rest : List Oper} {o : Oper} {d j t : Nat} {want : Bool} (g : o.dst = some d) (l : d < n) (i : o.guard = some (j, want)) (k : (ops[j]?).bind (·.dst) = some t) (m : t < n) (b : E t = undef) (h : LW P n ops Q rest (gB E d undef) W) : LW P n ops Q (o :: rest) E W := fun a ha => by
  unfold wpList
  have p := ha.BF k m b
  rw [if_neg (by simp [Region.wanted, i, p])]
  rw [g]
  exact h _ (ha.put l _)
theorem Kz {P : Program} {n : Nat} {Q : ko} {E : Nat → Value} {W : World} {ops : Array Oper} {rest : List Oper} {A : Value → Prop} {o : Oper} {dd : Nat} (hw : mD n ops E o) (b : o.dst = some dd) (d : dd < n) (g : ∃ p, A p ∧ ∀ W, et P E o W p W) (h : ∀ p, A p → LW P n ops Q rest (gB E dd p) W) : LW P n ops Q (o :: rest) E W := by
  obtain ⟨p, h1, a⟩ := g
  exact B6 hw b d (a W) (h p h1)
end Go.Proofs.YtmlncblocfcmiaaGreat
namespace Go.Proofs.YtmlncblocfcmiaaGreat
open Go.RowKit
variable {dd : Bool}
theorem jO {P : Program} {n : Nat} {x : Code} {Q : ko} {E : Nat → Value} {W : World} (h : CW P n x (kc (fun E W => Q .normal E W) Q) E W) : CW P n x Q E W :=
  Ca h (fun e E W h => by cases e <;> exact h)
section
variable {P : Program} {n : Nat} {Q : ko} {E : Nat → Value} {W : World} {d : Option Nat} {ty : TypeId} {pos : String} {af : Array Edge} {g : Option (Nat × Bool)}
  {F : Nat → Prop} {w : World} {μ : bW} {L : List (Nat × Obj)}
def Jn (k : IntKind) (op : BinOp) (a b : Int) : Option Value :=
  match op with
  | .quo => some (.int k (k.wrap (a.tdiv b)))
  | .rem => some (.int k (a.tmod b))
  | .and => some (.int k (k.wrap (BitVec.ofInt k.bits a &&& BitVec.ofInt k.bits b).toNat))
  | .or => some (.int k (k.wrap (BitVec.ofInt k.bits a ||| BitVec.ofInt k.bits b).toNat))
  | _ => none
theorem DK {op : BinOp} {h n : TypeId} {x y : Operand} {k : IntKind} {a b : Int} {v : Value} (l : aS E x = .int k a) (m : aS E y = .int k b) (j : b ≠ 0) (i : Jn k op a b = some v) :
    et P E ⟨d, .binOp op h x y n, ty, pos, af, g⟩ W v W := by
  show (do let r ← (do eqGuard op h x y (aS E x) (aS E y); binOp op h (aS E x) (aS E y)); pure (.value r) : Sem Next).run P W = _
  rw [l, m]
  cases op <;> simp [Jn] at i <;> subst i <;> simp [eqGuard, binOp, Op.intDiv, Op.intBits, j]
theorem Bv {h l : TypeId} {x y : Operand} {k k' : IntKind} {a b : Int} (i : aS E x = .int k a) (j : aS E y = .int k' b) (m : 0 ≤ b) :
    et P E ⟨d, .binOp .shr h x y l, ty, pos, af, g⟩ W (.int k (a.fdiv (2 ^ min b.toNat k.bits))) W := by
  show (do let r ← (do eqGuard .shr h x y (aS E x) (aS E y); binOp .shr h (aS E x) (aS E y)); pure (.value r) : Sem Next).run P W = _
  rw [i, j]
  simp [eqGuard, binOp, Op.shift, show ¬ b < 0 by omega]
theorem kF {s t : TypeId} {x : Operand} {k k' : IntKind} {a : Int} {u : TypeDesc} (b : P.underlying s = some u) (h : P.underlying t = some (.int k)) (i : aS E x = .int k' a) :
    et P E ⟨d, .convert s t x, ty, pos, af, g⟩ W (.int k (k.wrap a)) W := by
  show (do pure (.value (← convert s t (aS E x))) : Sem Next).run P W = _
  rw [i]
  simp [convert, run_underlying b, run_underlying h, Conv.intToInt]
theorem BZ {t e : TypeId} (dd : Nat) (a : P.underlying t = some (.slice e)) (A : Option Addr) (l c : Nat) (W : World) : (Op.equalIn (dd + 1) t (.slice A l c) (.slice none 0 0)).run P W = .ok A.isNone W := by
  cases A <;> simp [Op.equalIn, run_underlying a]
theorem tO {a k e : TypeId} {x y : Operand} {A : Option Addr} {l c : Nat} (h : P.underlying a = some (.slice e)) (i : aS E x = .slice A l c) (j : aS E y = .slice none 0 0) :
    et P E ⟨d, .binOp .eql a x y k, ty, pos, af, g⟩ W (.bool A.isNone) W := by
  show (do let r ← (do eqGuard .eql a x y (aS E x) (aS E y); binOp .eql a (aS E x) (aS E y)); pure (.value r) : Sem Next).run P W = _
  rw [i, j]
  have b := BZ 9999 h A l c W
  simp [eqGuard, binOp, Op.equal, show Op.maxDepth = 9999 + 1 from rfl, b]
def mE (s : ByteArray) : List Int := s.data.toList.map (fun b => (b.toNat : Int))
def wI (s : ByteArray) : Option (List Int) := if s.size ≤ maxLen then some (mE s) else none
theorem iT (s : ByteArray) : (mE s).length = s.size := by simp only [mE, List.length_map, Array.length_toList]; rfl
theorem GC {s : ByteArray} {cap i : Nat} {x : Int} (h : (mE s)[i]? = some x) : (bytesRow s cap)[i]? = some (.int .u8 x) := by
  have g : i < s.size := by have := (List.getElem?_eq_some_iff.1 h).1; rwa [iT] at this
  have a : i < s.data.size := g
  simp [mE] at h
  obtain ⟨b, d, rfl⟩ := h
  rw [bytesRow, Array.getElem?_append_left (by simpa using a)]
  simp [d]
theorem Di {K : Value → World → Prop} {s t e : TypeId} {x : Operand} {str : ByteArray} {l : List Int} (k : ST dd F w W μ L) (r : P.underlying s = some .string) (q : P.underlying t = some (.slice e)) (he : P.underlying e = some (.int .u8)) (n : aS E x = .string str) (a : wI str = some l) (h : ∀ W' v μ', ST dd F w W' μ' L → bO μ μ' → Lo F w μ μ' → Sl (Pl (dM .u8)) 1 μ' v l → Fr w.heap.size v → K v W') : fT P E ⟨d, .convert s t x, ty, pos, af, g⟩ W K := by
  unfold wI at a
  split at a
  case isFalse => cases a
  rename_i hm
  cases a
  have m := run_bytes_of_string (P := P) W s t e str r q he
  have h1 := k.drew.alloc (.cells (bytesRow str (grownCap W str.size 0 e)) e ((bytesRow str (grownCap W str.size 0 e)).size, (bytesRow str (grownCap W str.size 0 e)).size + 1))
  refine .inl ⟨.slice (some ⟨W.heap.size, 0, none⟩) str.size (grownCap W str.size 0 e), _, ?_, h _ _ _ (ST.Cs (A := []) h1) (ST.CA (A := []) h1) (ST.HN (A := []) h1) ?_ ?_⟩
  · show (do pure (.value (← convert s t (aS E x))) : Sem Next).run P W = _
    rw [n]
    simp only [Sem.run_bind, m, Result.andThen_ok, Sem.run_pure]
  · refine ⟨_, grownCap W str.size 0 e, by rw [iT], by rw [iT]; exact grownCap_ge W str.size 0 e, grownCap_le_maxLen W str.size 0 e hm, fun _ => ⟨W.heap.size, 0, bytesRow str (grownCap W str.size 0 e), e, _, rfl, if_pos rfl, fun i x n => ⟨_, rfl, rfl, fun j y p => ?_⟩⟩⟩
    cases j with
    | zero => simp [dM] at p; subst p; simpa using GC n
    | succ j => simp [dM] at p
  · intro b a
    simp [Value.ownBlock] at a
    subst a
    exact k.size
def yi (l : List Int) : ByteArray := l.foldl (fun r n => r.push (UInt8.ofNat n.toNat)) ByteArray.empty
theorem FZ {s t e : TypeId} {x : Operand} {v : Value} {l : List Int} (z : P.underlying s = some (.slice e)) (he : P.underlying e = some (.int .u8)) (y : P.underlying t = some .string) (F : aS E x = v) (D : Sl (Pl (dM .u8)) 1 (hp W) v l) :
    et P E ⟨d, .convert s t x, ty, pos, af, g⟩ W (.string (yi l)) W := by
  show (do pure (.value (← convert s t (aS E x))) : Sem Next).run P W = _
  obtain ⟨A, c, rfl, G, I, q⟩ := D
  rw [F]
  simp only [Sem.run_bind, run_convert_bytes_string W s t e A l.length c z he y]
  rcases Nat.eq_zero_or_pos l.length with h | h
  · have : l = [] := List.length_eq_zero_iff.1 h
    subst this
    cases A with
    | none => simp [Conv.bytesToString, yi]
    | some a =>
      have r := run_bytesToString (P := P) W a 0 c [] (by simpa using run_loadCells_list (P := P) W a [] (by simp))
      simp only [List.length_nil]
      rw [r]
      simp [yi]
  · obtain ⟨b, off, cs, T, fr, rfl, u, w⟩ := q h
    have p := run_loadCells_list (P := P) W ⟨b, off, none⟩ (l.map (Value.int .u8)) (fun j v n => by
      simp at n
      obtain ⟨x, k, rfl⟩ := n
      obtain ⟨ys, _, m, i⟩ := w j x k
      cases m
      rw [Addr.add_lit, cell_of_row W b (off + j) cs T fr u]
      have := i 0 (.int .u8 x) rfl
      simpa using this)
    simp only [List.length_map] at p
    rw [run_bytesToString W _ l.length c l p]
    simp [yi]
end
end Go.Proofs.YtmlncblocfcmiaaGreat
namespace Go.Proofs.YtmlncblocfcmiaaGreat
open Go.RowKit
variable {dd : Bool}
def keys (L : List (Nat × Obj)) : Nat → Prop := fun b => ∃ o, (b, o) ∈ L
structure Ng (dd : Bool) (F : Nat → Prop) (w W : World) : Prop where
  os : W.os = w.os
  tape : W.tape = w.tape
  output : W.output = w.output
  drawn : nw dd w.drawn W.drawn
  size : w.heap.size ≤ W.heap.size
  eP : ∀ b, b < w.heap.size → ¬ F b → W.heap[b]? = w.heap[b]?
def yT (L : List (Nat × Obj)) (W : World) : Prop := ∀ b o, (b, o) ∈ L → W.heap[b]? = some o
structure ny (dd : Bool) (L0 L1 : List (Nat × Obj)) (w w' : World) : Prop where
  ex : Ng dd (keys L0) w w'
  held : ∀ b o, (b, o) ∈ L1 → w'.heap[b]? = some o ∧ (w.heap.size ≤ b ∨ keys L0 b)
  nd : (L1.map (·.1)).Nodup
open Classical in
noncomputable def nP (w : World) (L : List (Nat × Obj)) : bW := fun b => if keys L b then none else w.heap[b]?
open Classical in
noncomputable def vN (μ : bW) (W W' : World) (L1 : List (Nat × Obj)) : bW := fun b => if b < W.heap.size then μ b else if keys L1 b then none else W'.heap[b]?
section
variable {F : Nat → Prop} {w W W' : World} {μ μ' : bW} {L L0 L1 : List (Nat × Obj)}
theorem ST.KW (a : yT L0 w) (d : (L0.map (·.1)).Nodup) : ST dd (keys L0) w w (nP w L0) L0 :=
  ⟨rfl, rfl, rfl, nw.of (Nat.le_refl _), Nat.le_refl _, fun _ _ _ => rfl, fun b o h => by
    unfold nP at h; split at h
    · cases h
    · exact h, fun b o h => ⟨a b o h, by unfold nP; rw [if_pos ⟨o, h⟩], .inr ⟨o, h⟩⟩, d⟩
theorem zm {A B : List (Nat × Obj)} (h : ((A ++ B).map (·.1)).Nodup) {b : Nat} {o : Obj} (a : (b, o) ∈ B) : ¬ keys A b := by
  rintro ⟨g, d⟩
  rw [List.map_append] at h
  exact (List.nodup_append.1 h).2.2 b (List.mem_map.2 ⟨_, d, rfl⟩) b (List.mem_map.2 ⟨_, a, rfl⟩) rfl
theorem ST.back (h : ST dd F w W μ (L0 ++ L)) (j : ny dd L0 L1 W W') : ST dd F w W' (vN μ W W' L1) (L1 ++ L) := by
  have hk : ∀ b, keys L0 b → b < W.heap.size ∧ μ b = none ∧ (w.heap.size ≤ b ∨ F b) := fun b ⟨o, d⟩ => by
    obtain ⟨h1, g, m⟩ := h.box b o (List.mem_append_left _ d)
    exact ⟨gD h1, g, m⟩
  refine ⟨j.ex.os.trans h.os, j.ex.tape.trans h.tape, j.ex.output.trans h.output, nw.trans h.drawn j.ex.drawn, Nat.le_trans h.size j.ex.size, fun b i n => ?_, fun b o d => ?_, fun b o d => ?_, ?_⟩
  · rw [j.ex.eP b (Nat.lt_of_lt_of_le i h.size) (fun k => by
      rcases (hk b k).2.2 with h | h
      · omega
      · exact n h)]
    exact h.eP b i n
  · unfold vN at d
    split at d
    · rename_i i
      rw [j.ex.eP b i (fun k => by rw [(hk b k).2.1] at d; cases d)]
      exact h.mem b o d
    · split at d
      · cases d
      · exact d
  · rcases List.mem_append.1 d with d | d
    · obtain ⟨h1, g⟩ := j.held b o d
      refine ⟨h1, ?_, ?_⟩
      · unfold vN
        split
        · rename_i i
          rcases g with g | g
          · omega
          · exact (hk b g).2.1
        · rw [if_pos ⟨o, d⟩]
      · rcases g with g | g
        · exact .inl (Nat.le_trans h.size g)
        · exact (hk b g).2.2
    · obtain ⟨h1, g, m⟩ := h.box b o (List.mem_append_right _ d)
      refine ⟨?_, ?_, m⟩
      · rw [j.ex.eP b (gD h1) (zm h.nd d)]; exact h1
      · unfold vN; rw [if_pos (gD h1)]; exact g
  · rw [List.map_append]
    have q : (L.map (·.1)).Nodup := by have := h.nd; rw [List.map_append] at this; exact (List.nodup_append.1 this).2.1
    refine List.nodup_append.2 ⟨j.nd, q, fun a ha c r e => ?_⟩
    subst e
    obtain ⟨⟨b, o⟩, d, rfl⟩ := List.mem_map.1 ha
    obtain ⟨⟨p, s⟩, l, e⟩ := List.mem_map.1 r
    simp at e; subst e
    have i := h.BS (List.mem_append_right _ l)
    rcases (j.held p o d).2 with g | g
    · omega
    · exact zm h.nd l g
theorem ST.EI (h : ST dd F w W μ L) (W' : World) (L1 : List (Nat × Obj)) : Lo F w μ (vN μ W W' L1) := fun b a _ => if_pos (Nat.lt_of_lt_of_le a h.size)
theorem ST.Dg (h : ST dd F w W μ L) (W' : World) (L1 : List (Nat × Obj)) : bO μ (vN μ W W' L1) := fun b o a => by
  unfold vN; rw [if_pos (h.zA a)]; exact a
theorem ST.cJ (h : ST dd F w W μ L) (d : ∀ p, p ∈ L0 → p ∈ L) : bO μ (nP W L0) := fun b o a => by
  unfold nP
  rw [if_neg]
  · exact h.mem b o a
  · rintro ⟨i, g⟩
    rw [(h.box b i (d _ g)).2.1] at a
    cases a
theorem ny.DM (h : Ex dd w W) (d : ∀ b o, (b, o) ∈ L1 → W.heap[b]? = some o ∧ w.heap.size ≤ b) (g : (L1.map (·.1)).Nodup) : ny dd [] L1 w W :=
  ⟨⟨h.os, h.tape, h.output, h.drawn, h.size, fun b a _ => h.eP b a⟩, fun b o a => ⟨(d b o a).1, .inl (d b o a).2⟩, g⟩
end
def dV (dd : Bool) (P : Program) (f : FuncId) (args : List Value) (w : World) (L0 : List (Nat × Obj)) (K : Value → List (Nat × Obj) → World → Prop) : Prop :=
  Calls P f args.toArray w fun e a => ∃ v L1, e = .returned v ∧ ny dd L0 L1 w a ∧ K v L1 a
def dP (dd : Bool) {α : Type} (P : Program) (f : FuncId) (args : List Value) (w : World) (e : TypeId) (enc : α → List Value) (k : Nat) (l : List α) : Prop :=
  dV dd P f args w [] fun v R _ => bG e enc k v l R
theorem ny.dK {L0 L1 : List (Nat × Obj)} {w a : World} (h : ny true L0 L1 w a) : ny dd L0 L1 w a := ⟨⟨h.ex.os, h.ex.tape, h.ex.output, nw.of (h.ex.drawn rfl), h.ex.size, h.ex.eP⟩, h.held, h.nd⟩
theorem bF.dK {P : Program} {f : FuncId} {args : List Value} {w : World} {v : Value} (h : bF true P f args w v) : bF dd P f args w v := Calls.mono h fun _ _ h => ⟨h.1, h.2.dK⟩
theorem dV.dK {P : Program} {f : FuncId} {args : List Value} {w : World} {L0 : List (Nat × Obj)} {K : Value → List (Nat × Obj) → World → Prop} (h : dV true P f args w L0 K) : dV dd P f args w L0 K := Calls.mono h fun _ _ ⟨v, L1, h1, a, b⟩ => ⟨v, L1, h1, a.dK, b⟩
theorem dP.dK {α : Type} {P : Program} {f : FuncId} {args : List Value} {w : World} {e : TypeId} {enc : α → List Value} {k : Nat} {l : List α} (h : dP true P f args w e enc k l) : dP dd P f args w e enc k l := dV.dK h
section
variable {P : Program} {E : Nat → Value} {W : World} {d : Option Nat} {ty : TypeId} {pos : String} {af : Array Edge} {g : Option (Nat × Bool)}
  {F : Nat → Prop} {w : World} {μ : bW} {L : List (Nat × Obj)}
theorem IQ {K : Value → World → Prop} {K' : Value → List (Nat × Obj) → World → Prop} {f : FuncId} {fv : Operand} {ax : Array Operand} {ats : Array TypeId} {caps : Array Value} {args : List Value} (L0 L2 : List (Nat × Obj)) (a : ST dd F w W μ L) (b : L.Perm (L0 ++ L2)) (l : aS E fv = .func (.func f) #[] caps) (he : ∀ args w, (callFunc f args).run P w = .ok (.enter f args) w) (ha : ax.map (aS E) ++ caps = args.toArray) (k : dV dd P f args W L0 K') (h : ∀ W' v μ' L1, ST dd F w W' μ' (L1 ++ L2) → bO μ μ' → Lo F w μ μ' → K' v L1 W' → K v W') : fT P E ⟨d, .call ⟨.value fv, ax, ats⟩, ty, pos, af, g⟩ W K :=
  zr l he ha (Calls.mono k (fun _ W' ⟨v, L1, h1, i, j⟩ => ⟨v, h1, h W' v _ L1 ((a.perm b).back i) ((a.perm b).Dg W' L1) ((a.perm b).EI W' L1) j⟩))
theorem GR {K : Value → World → Prop} {α : Type} {e : TypeId} {enc : α → List Value} {k : Nat} {l : List α} {f : FuncId} {fv : Operand} {ax : Array Operand} {ats : Array TypeId} {caps : Array Value} {args : List Value} (X Y : List (Nat × Obj)) (a : ST dd F w W μ (X ++ Y)) (n : aS E fv = .func (.func f) #[] caps) (he : ∀ args w, (callFunc f args).run P w = .ok (.enter f args) w) (ha : ax.map (aS E) ++ caps = args.toArray) (m : dP dd P f args W e enc k l) (h : ∀ W' v μ' R, ST dd F w W' μ' (X ++ (R ++ Y)) → bO μ μ' → Lo F w μ μ' → bG e enc k v l R → K v W') : fT P E ⟨d, .call ⟨.value fv, ax, ats⟩, ty, pos, af, g⟩ W K :=
  IQ [] (X ++ Y) a (.refl _) n he ha m (fun W' v μ' L1 h1 b j i => h W' v μ' L1 (h1.perm (by rw [← List.append_assoc, ← List.append_assoc]; exact List.perm_append_comm.append_right Y)) b j i)
end
theorem ST.gb {w W : World} {μ : bW} {L R : List (Nat × Obj)} (h : ST dd cA w W μ L) (a : ∀ p, p ∈ R → p ∈ L) (g : (R.map (·.1)).Nodup) : ny dd [] R w W :=
  ny.DM h.ex (fun b o d => ⟨(h.box b o (a _ d)).1, by
    rcases (h.box b o (a _ d)).2.2 with h | h
    · exact h
    · exact h.elim⟩) g
theorem fi {P : Program} {E : Nat → Value} {W : World} {d : Option Nat} {ty : TypeId} {pos : String} {af : Array Edge} {g : Option (Nat × Bool)} {α : Type} {e' : TypeId} {enc : α → List Value} {k : Nat} {v : Value} {l : List α} {R : List (Nat × Obj)} {x : Operand} {t e : TypeId} (a : P.underlying t = some (.slice e)) (b : aS E x = v) (h : bG e' enc k v l R) : et P E ⟨d, .call ⟨.builtin .len, #[x], #[t]⟩, ty, pos, af, g⟩ W (.int .i64 l.length) W := by
  obtain ⟨A, c, rfl⟩ := h.form
  exact uF a b
section
variable {α : Type} {e : TypeId} {enc : α → List Value} {k : Nat} {v : Value} {l : List α} {R : List (Nat × Obj)}
theorem bG.nd (h : bG e enc k v l R) : (R.map (·.1)).Nodup := by
  rcases h with ⟨rfl, rfl, rfl⟩ | ⟨g, cap, cur, rfl, rfl, _⟩ <;> simp
end
end Go.Proofs.YtmlncblocfcmiaaGreat
namespace Go.Proofs.YtmlncblocfcmiaaGreat
open Go.RowKit
variable {dd : Bool}
def uu (R : List (Nat × Obj)) (k : Nat) (p : Value) (i : Nat) : Prop := ∃ g o, R = [(g, o)] ∧ p = .pointer (some ⟨g, i * k, none⟩)
section
variable {P : Program} {E : Nat → Value} {W : World} {d : Option Nat} {ty : TypeId} {pos : String} {af : Array Edge} {g : Option (Nat × Bool)}
  {F : Nat → Prop} {w : World} {μ : bW} {L : List (Nat × Obj)} {α : Type} {e' : TypeId} {enc : α → List Value} {k : Nat} {v : Value} {l : List α} {R : List (Nat × Obj)}
theorem iZ {t e : TypeId} {x b : Operand} {y : IntKind} {i : Int} {x0 : α} (s : P.underlying t = some (.slice e)) (he : ∀ w, (sizeOf e).run P w = .ok k w) (u : aS E x = v) (q : aS E b = .int y i) (h : bG e' enc k v l R) (m : 0 ≤ i) (r : l[i.toNat]? = some x0) :
    ∃ p, uu R k p i.toNat ∧ ∀ W, et P E ⟨d, .indexAddr t x b, ty, pos, af, g⟩ W p W := by
  have a : i.toNat < l.length := (List.getElem?_eq_some_iff.1 r).1
  rcases h with ⟨rfl, rfl, rfl⟩ | ⟨j, cap, cur, rfl, rfl, h1, z, A, D⟩
  · simp at a
  refine ⟨.pointer (some ⟨j, i.toNat * k, none⟩), ⟨_, _, rfl, rfl⟩, fun W => ?_⟩
  show (do pure (.value (← Instr.indexAt t (aS E x) (aS E b))) : Sem Next).run P W = _
  rw [u, q]
  have n : 0 ≤ i ∧ i < (l.length : Int) := ⟨m, by omega⟩
  simp [Instr.indexAt, asIntOf, run_underlying s, he W, n, Addr.add_lit]
theorem vc (h : bG e' enc k v l R) (hk : ∀ x, (enc x).length = k) {p : Value} {i : Nat} (hp : uu R k p i) {x0 : α} (m : l[i]? = some x0) :
    ∃ g cur cap, R = [(g, .cells cur e' (0, 0))] ∧ v = .slice (some ⟨g, 0, none⟩) l.length cap ∧ l.length ≤ cap ∧ cap ≤ maxLen ∧ cur.size = cap * k ∧ cur.toList.take (l.length * k) = (l.map enc).flatten ∧ p = .pointer (some ⟨g, i * k, none⟩) ∧ ∀ j y, (enc x0)[j]? = some y → cur[i * k + j]? = some y := by
  have b : i < l.length := (List.getElem?_eq_some_iff.1 m).1
  rcases h with ⟨rfl, rfl, rfl⟩ | ⟨q, cap, cur, rfl, rfl, h1, r, s, d⟩
  · simp at b
  obtain ⟨g2, o, n, rfl⟩ := hp
  cases n
  refine ⟨q, cur, cap, rfl, rfl, h1, r, s, d, rfl, fun j y t => ?_⟩
  have := qb hk l i x0 m j y t
  rw [← d] at this
  have a : i * k + j < l.length * k := by
    have := (List.getElem?_eq_some_iff.1 this).1
    simp at this; omega
  rw [List.getElem?_take_of_lt a] at this
  simpa using this
theorem oJ {A : List (Nat × Obj)} (hH : gf μ A W) (b : ∀ q, q ∈ R → q ∈ A) (h : bG e' enc k v l R) (hk : ∀ x, (enc x).length = k) {p : Value} {i : Nat} (hp : uu R k p i) {x0 : α} (j : l[i]? = some x0) {t : TypeId} (d : ∀ w, (isAgg t).run P w = .ok true w) (g : ∀ w, (sizeOf t).run P w = .ok k w) : (Instr.loadAt t p).run P W = .ok (.agg (enc x0).toArray) W := by
  obtain ⟨m, cur, cap, rfl, rfl, _, _, _, _, rfl, a⟩ := vc h hk hp j
  exact wg d (enc x0) (by rw [hk]; exact g) (hH.2 _ _ (b _ (List.mem_singleton.2 rfl))) a
theorem xq {A : List (Nat × Obj)} (hH : gf μ A W) (b : ∀ q, q ∈ R → q ∈ A) (h : bG e' enc k v l R) (hk : ∀ x, (enc x).length = k) {p : Value} {i : Nat} (hp : uu R k p i) {x0 : α} (g : l[i]? = some x0) {t : TypeId} {y : Value} (j : enc x0 = [y]) (d : ∀ w, (isAgg t).run P w = .ok false w) : (Instr.loadAt t p).run P W = .ok y W := by
  obtain ⟨m, cur, cap, rfl, rfl, _, _, _, _, rfl, a⟩ := vc h hk hp g
  exact wh d (hH.2 _ _ (b _ (List.mem_singleton.2 rfl))) (a 0 y (by rw [j]; rfl))
theorem As (hk : ∀ x, (enc x).length = k) : ∀ (l : List α) (i : Nat) (y : α), i < l.length → ((l.set i y).map enc).flatten = (l.map enc).flatten.take (i * k) ++ enc y ++ (l.map enc).flatten.drop (i * k + k)
  | [], i, y, h => by simp at h
  | z :: l, 0, y, h => by
    simp [hk]
  | z :: l, i + 1, y, h => by
    have := As hk l i y (by simpa using h)
    simp only [List.set_cons_succ, List.map_cons, List.flatten_cons, this]
    have h1 : (i + 1) * k = (enc z).length + i * k := by rw [hk, Nat.add_mul]; omega
    rw [h1, List.take_length_add_append, Nat.add_assoc, List.drop_length_add_append]
    simp
theorem GJ {K : Value → World → Prop} (X : List (Nat × Obj)) {Y : List (Nat × Obj)} {t : TypeId} {x y : Operand} {p u : Value} {i : Nat} {x0 x1 : α} (b : ST dd F w W μ (X ++ (R ++ Y))) (h : bG e' enc k v l R) (hk : ∀ x, (enc x).length = k) (h1 : ∀ x, ∀ u ∈ enc x, u.oneCell' = true) (Q : aS E x = p) (T : aS E y = u) (hu : u.cells = (enc x1).toArray) (hp : uu R k p i) (A : l[i]? = some x0) (M : ∀ w, (sizeOf t).run P w = .ok k w) (L : ∀ W' R', ST dd F w W' μ (X ++ (R' ++ Y)) → bG e' enc k v (l.set i x1) R' → K undef W') : fT P E ⟨d, .store t x y, ty, pos, af, g⟩ W K := by
  have r : i < l.length := (List.getElem?_eq_some_iff.1 A).1
  obtain ⟨m, cur, cap, rfl, rfl, z, I, q, J, rfl, U⟩ := vc h hk hp A
  have hle : i * k + k ≤ cap * k := by
    have : (i + 1) * k ≤ cap * k := Nat.mul_le_mul_right _ (by omega)
    rwa [Nat.add_mul, Nat.one_mul] at this
  have j : i * k + k ≤ l.length * k := by
    have : (i + 1) * k ≤ l.length * k := Nat.mul_le_mul_right _ (by omega)
    rwa [Nat.add_mul, Nat.one_mul] at this
  have a : u.cells.size = k := by rw [hu]; simp [hk]
  have O := (b.box m (.cells cur e' (0, 0)) (by simp)).1
  have hlen : l.length * k ≤ cap * k := Nat.mul_le_mul_right _ z
  refine .inr (.inl ⟨W.setRow m (cur.toList.take (i * k) ++ (enc x1) ++ cur.toList.drop (i * k + k)).toArray, ?_, L _ [(m, .cells (cur.toList.take (i * k) ++ (enc x1) ++ cur.toList.drop (i * k + k)).toArray e' (0, 0))] (b.store _) (.inr ⟨m, cap, _, by simp, rfl, by simpa using z, I, ?_, ?_⟩)⟩)
  · show (do Instr.storeAt t (aS E x) (aS E y); pure .skip : Sem Next).run P W = _
    rw [Q, T]
    have := sQ P (off := i * k) u (by rw [a]; exact M) (by rw [hu]; simpa using h1 x1) O (by rw [a, q]; exact hle)
    simp only [Sem.run_bind, this, Result.andThen_ok, Sem.run_pure, a]
    rw [hu]
  · show ((cur.toList.take (i * k) ++ (enc x1) ++ cur.toList.drop (i * k + k)).toArray).size = _
    have n : cur.toList.length = cap * k := by simpa using q
    rw [List.size_toArray, List.length_append, List.length_append, List.length_take, List.length_drop, hk, n, Nat.min_eq_left (by omega)]; omega
  · rw [List.length_set, As hk l i x1 r, ← J]
    have D : (cur.toList.take (l.length * k)).take (i * k) = cur.toList.take (i * k) := by rw [List.take_take]; congr 1; omega
    have G : (cur.toList.take (l.length * k)).drop (i * k + k) = (cur.toList.drop (i * k + k)).take (l.length * k - (i * k + k)) := by rw [List.drop_take]
    rw [D, G]
    show List.take (l.length * k) (cur.toList.take (i * k) ++ enc x1 ++ cur.toList.drop (i * k + k)) = _
    have n : cur.toList.length = cap * k := by simpa using q
    have s : (cur.toList.take (i * k) ++ enc x1).length = i * k + k := by rw [List.length_append, List.length_take, hk, n, Nat.min_eq_left (by omega)]
    rw [List.take_append, List.take_of_length_le (by rw [s]; exact j), s]
theorem za (hk : ∀ x, (enc x).length = k) : ∀ (l : List α) (i : Nat), i ≤ l.length → ((l.take i).map enc).flatten = (l.map enc).flatten.take (i * k)
  | [], i, h => by simp
  | z :: l, 0, h => by simp
  | z :: l, i + 1, h => by
    have := za hk l i (by simpa using h)
    simp only [List.take_succ_cons, List.map_cons, List.flatten_cons, this]
    rw [show (i + 1) * k = (enc z).length + i * k by rw [hk, Nat.add_mul]; omega, List.take_length_add_append]
theorem xZ {t e : TypeId} {x ih : Operand} {D : IntKind} {i : Int} (m : P.underlying t = some (.slice e)) (he : ∀ w, (sizeOf e).run P w = .ok k w) (n : aS E x = v) (j : aS E ih = .int D i) (h : bG e' enc k v l R) (hk : ∀ x, (enc x).length = k) (r : 0 ≤ i) (A : i ≤ l.length) :
    ∃ p, bG e' enc k p (l.take i.toNat) R ∧ ∀ W, et P E ⟨d, .slice t x none (some ih) none, ty, pos, af, g⟩ W p W := by
  have a : i.toNat ≤ l.length := by omega
  rcases h with ⟨rfl, rfl, rfl⟩ | ⟨b, cap, cur, rfl, rfl, h1, s, u, y⟩
  · have : i = 0 := by simp at A; omega
    subst this
    refine ⟨.slice none 0 0, .inl ⟨rfl, by simp, rfl⟩, fun W => ?_⟩
    show (do pure (.value (← Instr.sliceAt t (aS E x) none (some (aS E ih)) none)) : Sem Next).run P W = _
    rw [n, j]
    simp [Instr.sliceAt, Instr.slice, Instr.sliceBounds, Instr.sliceBound, asIntOf, run_underlying m, he W]
  · refine ⟨.slice (some ⟨b, 0, none⟩) (l.take i.toNat).length cap, .inr ⟨b, cap, cur, rfl, rfl, by simp; omega, s, u, ?_⟩, fun W => ?_⟩
    · have q : (l.take i.toNat).length = i.toNat := by rw [List.length_take]; omega
      have hle : i.toNat * k ≤ l.length * k := Nat.mul_le_mul_right _ a
      rw [q, za hk l i.toNat a, ← y, List.take_take, Nat.min_eq_left hle]
    · show (do pure (.value (← Instr.sliceAt t (aS E x) none (some (aS E ih)) none)) : Sem Next).run P W = _
      rw [n, j]
      have z : 0 ≤ i ∧ i ≤ (cap : Int) := ⟨r, by omega⟩
      simp [Instr.sliceAt, Instr.slice, Instr.sliceBounds, Instr.sliceBound, asIntOf, run_underlying m, he W, z, Addr.add_lit]
      omega
theorem vV {u : jq α} {t e : TypeId} {x r : Operand} {Z : IntKind} {i : Int} (U : P.underlying t = some (.slice e)) (he : ∀ w, (sizeOf e).run P w = .ok k w) (n : aS E x = v) (M : aS E r = .int Z i) (h : Sl u k μ v l) (z : 0 ≤ i) (O : i ≤ l.length) :
    ∃ s, (Sl u k μ s (l.drop i.toNat) ∧ ∀ B, Fr B v → Fr B s) ∧ ∀ W, et P E ⟨d, .slice t x (some r) none none, ty, pos, af, g⟩ W s W := by
  obtain ⟨A, c, rfl, h2, h3, D⟩ := h
  have Q : i.toNat ≤ l.length := by omega
  refine ⟨.slice (if c = i.toNat then A else A.map (·.add (i.toNat * k))) (l.drop i.toNat).length (c - i.toNat), ⟨⟨_, _, rfl, by simp; omega, by omega, fun hp => ?_⟩, fun B L b m => ?_⟩, fun W => ?_⟩
  · have R : i.toNat < l.length := by simp at hp; omega
    obtain ⟨b, off, cs, T, fr, rfl, F, G⟩ := D (by omega)
    refine ⟨b, off + i.toNat * k, cs, T, fr, ?_, F, fun j x n => ?_⟩
    · rw [if_neg (by omega)]; simp [Addr.add_lit]
    · rw [List.getElem?_drop] at n
      obtain ⟨ys, I, J, p⟩ := G _ x n
      refine ⟨ys, I, J, fun q y Y => ?_⟩
      have := p q y Y
      rw [Nat.add_mul] at this
      rw [show off + i.toNat * k + j * k + q = off + (i.toNat * k + j * k) + q by omega]
      exact this
  · refine L b ?_
    cases A with
    | none => simp [Value.ownBlock] at m
    | some a =>
      split at m
      · exact m
      · obtain ⟨b', o', s'⟩ := a
        cases s' <;> simp [Value.ownBlock, Addr.add] at m ⊢ <;> split at m <;> exact m
  · show (do pure (.value (← Instr.sliceAt t (aS E x) (some (aS E r)) none none)) : Sem Next).run P W = _
    rw [n, M]
    have m : 0 ≤ i ∧ i ≤ (l.length : Int) := ⟨z, O⟩
    simp [Instr.sliceAt, Instr.slice, Instr.sliceBounds, Instr.sliceBound, asIntOf, run_underlying U, he W, m]
end
end Go.Proofs.YtmlncblocfcmiaaGreat
namespace Go.Proofs.YtmlncblocfcmiaaGreat
open Go.RowKit
variable {dd : Bool}
section
variable {α : Type} {e : TypeId} {enc : α → List Value} {k : Nat} {v : Value} {l : List α} {R : List (Nat × Obj)} {μ : bW}
theorem bG.one (h : bG e enc k v l R) : v.oneCell' = true := by obtain ⟨A, c, rfl⟩ := h.form; rfl
theorem Sl.one {a : jq α} (h : Sl a k μ v l) : v.oneCell' = true := by obtain ⟨A, c, rfl⟩ := h.form; rfl
theorem Sl.isNil {d : jq α} {n c : Nat} (h : Sl d k μ (.slice none n c) l) : l = [] := by
  obtain ⟨A, j, h1, m, p, g⟩ := h
  cases h1
  rcases Nat.eq_zero_or_pos l.length with a | a
  · exact List.length_eq_zero_iff.1 a
  · obtain ⟨b, off, cs, T, fr, i, _⟩ := g a
    cases i
theorem bG.isNil {n c : Nat} (h : bG e enc k (.slice none n c) l R) : l = [] := by
  rcases h with ⟨h1, rfl, rfl⟩ | ⟨g, cap, cur, h1, _⟩
  · rfl
  · cases h1
theorem ST.LX {w W : World} {μ : bW} {L1 L2 : List (Nat × Obj)} (h : ST dd cA w W μ (L1 ++ L2)) : ny dd [] L1 w W :=
  ny.DM h.ex (fun b o a => ⟨(h.box b o (List.mem_append_left _ a)).1, by
    rcases (h.box b o (List.mem_append_left _ a)).2.2 with h | h
    · exact h
    · exact h.elim⟩) (by have := h.nd; rw [List.map_append] at this; exact (List.nodup_append.1 this).1)
theorem ST.Mc {w W : World} {μ : bW} {L0 L1 L2 : List (Nat × Obj)} (h : ST dd (keys L0) w W μ (L1 ++ L2)) : ny dd L0 L1 w W :=
  ⟨⟨h.os, h.tape, h.output, h.drawn, h.size, h.eP⟩, fun b o a => ⟨(h.box b o (List.mem_append_left _ a)).1, (h.box b o (List.mem_append_left _ a)).2.2⟩, by have := h.nd; rw [List.map_append] at this; exact (List.nodup_append.1 this).1⟩
end
end Go.Proofs.YtmlncblocfcmiaaGreat
namespace Go.Proofs.YtmlncblocfcmiaaGreat
open Go.RowKit
variable {dd : Bool}
def dE {κ β : Type} (beq : κ → κ → Bool) (l : List (κ × β)) (k : κ) : Option β := (l.find? (fun p => beq k p.1)).map (·.2)
def gG {κ β : Type} (beq : κ → κ → Bool) (l : List (κ × β)) (k : κ) (v : β) : List (κ × β) :=
  match l.findIdx? (fun p => beq k p.1) with
  | some i => l.set i (k, v)
  | none => l ++ [(k, v)]
structure ob {κ β : Type} (kenc : κ → Value) (vf : β → Value) (l : List (κ × β)) (es : Array MapEntry) (clock : Nat) : Prop where
  zw : es.toList.map (fun e => (e.key, e.val)) = l.map (fun p => (kenc p.1, vf p.2))
  born : es.toList.Pairwise (fun a b => a.born < b.born)
  lt : ∀ e ∈ es.toList, e.born < clock
def ek {κ β : Type} (kenc : κ → Value) (vf : β → Value) (v : Value) (l : List (κ × β)) (R : List (Nat × Obj)) : Prop :=
  ∃ m es clock, v = .map (some m) ∧ R = [(m, .map es clock)] ∧ ob kenc vf l es clock
def pH {κ β : Type} (kenc : κ → Value) (vf : β → Value) (μ : bW) (v : Value) (l : List (κ × β)) : Prop :=
  (v = .map none ∧ l = []) ∨ ∃ m es clock, v = .map (some m) ∧ μ m = some (.map es clock) ∧ ob kenc vf l es clock
theorem pH.mono {κ β : Type} {kenc : κ → Value} {vf : β → Value} {μ μ' : bW} {v : Value} {l : List (κ × β)} (h : pH kenc vf μ v l) (d : bO μ μ') : pH kenc vf μ' v l := by
  rcases h with h | ⟨m, es, clock, h1, a, b⟩
  · exact .inl h
  · exact .inr ⟨m, es, clock, h1, d _ _ a, b⟩
theorem ek.at {κ β : Type} {kenc : κ → Value} {vf : β → Value} {μ : bW} {v : Value} {l : List (κ × β)} {R : List (Nat × Obj)} (h : ek kenc vf v l R) (d : ∀ b o, (b, o) ∈ R → μ b = some o) : pH kenc vf μ v l := by
  obtain ⟨m, es, clock, rfl, rfl, a⟩ := h
  exact .inr ⟨m, es, clock, rfl, d _ _ (List.mem_singleton.2 rfl), a⟩
structure ja {κ : Type} (P : Program) (kt : TypeId) (kenc : κ → Value) (beq : κ → κ → Bool) : Prop where
  check : ∀ b k W, (Instr.checkKey b 10000 kt (kenc k)).run P W = .ok () W
  find : ∀ (k : κ) (l : List κ) (es : List MapEntry), es.map (·.key) = l.map kenc → ∀ W, (Instr.findKey kt (kenc k) es).run P W = .ok ((l.findIdx? (fun x => beq k x)).bind fun i => (es[i]?).map fun e => (i, e.val)) W
  eq : ∀ k x, beq k x = true → kenc x = kenc k
  bits : ∀ k, Instr.sameBits 10000 (kenc k) (kenc k) = true
section
variable {P : Program} {W : World} {κ : Type} {kt : TypeId} {kenc : κ → Value} {beq : κ → κ → Bool}
theorem wQ (a : ∀ x y W, (Op.equal kt (kenc x) (kenc y)).run P W = .ok (beq x y) W) (k : κ) : ∀ (l : List κ) (es : List MapEntry) (i : Nat), es.map (·.key) = l.map kenc →
    (Instr.findAsking kt (kenc k) es i).run P W = .ok ((l.findIdx? (fun x => beq k x)).bind fun j => (es[j]?).map fun e => (i + j, e.val)) W
  | [], [], i, h => by simp [Instr.findAsking]
  | [], _ :: _, i, h => by simp at h
  | _ :: _, [], i, h => by simp at h
  | x :: l, e :: es, i, h => by
    simp only [List.map_cons, List.cons.injEq] at h
    obtain ⟨h1, b⟩ := h
    simp only [Instr.findAsking, Sem.run_bind, h1, a, Result.andThen_ok, List.findIdx?_cons]
    cases d : beq k x with
    | true => simp
    | false =>
      simp only [Bool.false_eq_true, if_false]
      rw [wQ a k l es (i + 1) b]
      cases l.findIdx? (fun x => beq k x) with
      | none => rfl
      | some j => simp [Nat.add_assoc, Nat.add_comm 1 j]
theorem Fk {kind : TypeDesc} (hk : ∀ a b, Instr.sameNow kind (.agg a) b = none) (a : Array Value) : ∀ (es : List MapEntry) (i : Nat), Instr.findNow kind (.agg a) es i = if es = [] then some none else none
  | [], i => by simp [Instr.findNow]
  | e :: es, i => by simp [Instr.findNow, hk]
theorem ja.struct {enc : κ → List Value} {fs : Array Field} (p : P.underlying kt = some (.struct fs)) (n : ∀ d x y W, (Op.equalIn (d + 10) kt (.agg (enc x).toArray) (.agg (enc y).toArray)).run P W = .ok (beq x y) W) (m : ∀ b k W, (Instr.checkKey b 10000 kt (.agg (enc k).toArray)).run P W = .ok () W) (he : ∀ k x, beq k x = true → x = k) (j : ∀ k, Instr.sameBits 10000 (.agg (enc k).toArray) (.agg (enc k).toArray) = true) : ja P kt (fun x => .agg (enc x).toArray) beq where
  check := m
  find := fun k l es h W => by
    have g : ∀ x y W, (Op.equal kt (.agg (enc x).toArray) (.agg (enc y).toArray)).run P W = .ok (beq x y) W := fun x y W => n 9990 x y W
    simp only [Instr.findKey, Sem.run_bind, run_underlying p, Result.andThen_ok]
    rw [Fk (fun a b => by cases b <;> rfl)]
    by_cases i : es = []
    · subst i
      have : l = [] := by simpa using h.symm
      subst this
      simp
    · rw [if_neg i]
      dsimp only
      rw [show Instr.findAsking kt (.agg (enc k).toArray) es = Instr.findAsking kt (.agg (enc k).toArray) es 0 from rfl, wQ g k l es 0 h]
      simp
  eq := fun k x h => by rw [he k x h]
  bits := j
theorem eA {a b : ByteArray} : dA a b = true ↔ a = b := by
  unfold dA
  rw [ByteArray.toList_eq, ByteArray.toList_eq]
  constructor
  · intro h
    have h1 : a.data.toList = b.data.toList := by simpa using h
    exact ByteArray.ext (Array.toList_inj.1 h1)
  · rintro rfl
    simp
theorem yo (a b : ByteArray) : (a == b) = dA a b := by
  rw [Bool.eq_iff_iff, eA]
  constructor
  · intro h
    have h1 : (a.data == b.data) = true := h
    exact ByteArray.ext (by simpa using h1)
  · rintro rfl
    show (a.data == a.data) = true
    simp
theorem wR (k : ByteArray) : ∀ (l : List ByteArray) (es : List MapEntry) (i : Nat), es.map (·.key) = l.map Value.string →
    Instr.findNow .string (.string k) es i = some ((l.findIdx? (fun x => dA k x)).bind fun j => (es[j]?).map fun e => (i + j, e.val))
  | [], [], i, h => by simp [Instr.findNow]
  | [], _ :: _, i, h => by simp at h
  | _ :: _, [], i, h => by simp at h
  | x :: l, e :: es, i, h => by
    simp only [List.map_cons, List.cons.injEq] at h
    obtain ⟨h1, a⟩ := h
    simp only [Instr.findNow, h1, Instr.sameNow, yo, List.findIdx?_cons]
    cases b : dA k x with
    | true => simp
    | false =>
      simp only [Bool.false_eq_true, if_false]
      rw [wR k l es (i + 1) a]
      cases l.findIdx? (fun x => dA k x) with
      | none => rfl
      | some j => simp [Nat.add_assoc, Nat.add_comm 1 j]
theorem so (a : P.underlying kt = some .string) (n : Nat) (b : Bool) (k : ByteArray) (W : World) : (Instr.checkKey b (n + 1) kt (.string k)).run P W = .ok () W := by
  simp [Instr.checkKey, run_underlying a]
theorem ja.string (a : P.underlying kt = some .string) : ja P kt Value.string dA where
  check := fun b k W => so a 9999 b k W
  find := fun k l es h W => by
    simp only [Instr.findKey, Sem.run_bind, run_underlying a, Result.andThen_ok]
    have := wR k l es 0 h
    rw [this]
    simp
  eq := fun k x h => by rw [eA.1 h]
  bits := fun k => by simp only [Instr.sameBits]; rw [yo]; exact eA.2 rfl
variable {β : Type} {vf : β → Value} {E : Nat → Value} {d : Option Nat} {ty : TypeId} {pos : String} {af : Array Edge} {g : Option (Nat × Bool)} {F : Nat → Prop} {w : World} {μ : bW} {L : List (Nat × Obj)}
theorem ob.keys {l : List (κ × β)} {es : Array MapEntry} {clock : Nat} (h : ob kenc vf l es clock) : es.toList.map (·.key) = (l.map (·.1)).map kenc := by
  have := congrArg (List.map Prod.fst) h.zw
  simpa [Function.comp_def] using this
theorem ob.length {l : List (κ × β)} {es : Array MapEntry} {clock : Nat} (h : ob kenc vf l es clock) : es.size = l.length := by
  have := congrArg List.length h.zw
  simpa using this
theorem ob.get {l : List (κ × β)} {es : Array MapEntry} {clock : Nat} (h : ob kenc vf l es clock) (k : κ) :
    (((l.map (·.1)).findIdx? (fun x => beq k x)).bind fun i => (es.toList[i]?).map fun e => (i, e.val)) = (l.findIdx? (fun p => beq k p.1)).bind fun i => (l[i]?).map fun p => (i, vf p.2) := by
  rw [List.findIdx?_map]
  show ((l.findIdx? (fun p => beq k p.1)).bind _) = _
  congr 1
  funext i
  have := congrArg (fun q => q[i]?) h.zw
  simp only [List.getElem?_map] at this
  cases h1 : es.toList[i]? with
  | none => rw [h1] at this; cases a : l[i]? with
    | none => rfl
    | some p => rw [a] at this; cases this
  | some e => rw [h1] at this; cases a : l[i]? with
    | none => rw [a] at this; cases this
    | some p => rw [a] at this; simp at this; simp [this.2]
theorem rB (l : List (κ × β)) (k : κ) : dE beq l k = (l.findIdx? (fun p => beq k p.1)).bind fun i => (l[i]?).map (·.2) := by
  induction l with
  | nil => rfl
  | cons p l ih =>
    simp only [dE, List.find?_cons, List.findIdx?_cons] at ih ⊢
    cases beq k p.1 with
    | true => rfl
    | false =>
      simp only [Bool.false_eq_true, if_false]
      rw [ih]
      cases l.findIdx? (fun p => beq k p.1) <;> simp
theorem D1 {t e : TypeId} {m x : Operand} {s z : Value} {l : List (κ × β)} {k : κ} (K : ja P kt kenc beq) (q : P.underlying t = some (.map kt e)) (b : ∀ w, (zeroValue e).run P w = .ok z w) (hm : aS E m = s) (A : aS E x = kenc k) (v : pH kenc vf (hp W) s l) :
    et P E ⟨d, .lookup t m x false, ty, pos, af, g⟩ W (((dE beq l k).map vf).getD z) W := by
  show (do pure (.value (← Instr.lookup t (aS E m) (aS E x) false)) : Sem Next).run P W = _
  rw [hm, A]
  rcases v with ⟨rfl, rfl⟩ | ⟨r, es, clock, rfl, y, h⟩
  · have := K.find k [] [] rfl W
    simp [Instr.lookup, run_underlying q, K.check, this, b W, dE]
  · have a : W.heap[r]? = some (.map es clock) := y
    have u : ((getObj r : Sem Obj)).run P W = .ok (.map es clock) W := by simp [getObj, Sem.run, a]
    have j := K.find k _ _ h.keys W
    rw [h.get k] at j
    simp only [Instr.lookup, Sem.run_bind, run_underlying q, Result.andThen_ok, u, Sem.run_pure, K.check, j, rB]
    cases D : l.findIdx? (fun p => beq k p.1) with
    | none => simp [b W]
    | some i =>
      cases n : l[i]? with
      | none => simp [n, b W]
      | some p => simp [n]
theorem lE {l : List (κ × β)} {k : κ} {i : Nat} (h : l.findIdx? (fun p => beq k p.1) = some i) : ∃ p, l[i]? = some p ∧ beq k p.1 = true := by
  rw [List.findIdx?_eq_some_iff_getElem] at h
  obtain ⟨h1, a, _⟩ := h
  exact ⟨l[i], List.getElem?_eq_getElem h1, a⟩
theorem ob.put {l : List (κ × β)} {es : Array MapEntry} {clock : Nat} (h : ob kenc vf l es clock) (k : κ) (v : β) :
    match l.findIdx? (fun p => beq k p.1) with
    | some i => ob kenc vf (l.set i (k, v)) (es.modify i fun e => { e with key := kenc k, val := vf v }) clock
    | none => ob kenc vf (l ++ [(k, v)]) (es.push { key := kenc k, val := vf v, born := clock }) (clock + 1) := by
  cases s : l.findIdx? (fun p => beq k p.1) with
  | none =>
    refine ⟨?_, ?_, ?_⟩
    · simp [h.zw]
    · simp only [Array.toList_push, List.pairwise_append]
      exact ⟨h.born, by simp, fun a ha b r => by simp at r; subst r; exact h.lt a ha⟩
    · intro e he
      simp at he
      rcases he with he | rfl
      · exact Nat.lt_succ_of_lt (h.lt e (by simpa using he))
      · exact Nat.lt_succ_self _
  | some i =>
    obtain ⟨p, hp, _⟩ := lE s
    have w : i < l.length := (List.getElem?_eq_some_iff.1 hp).1
    have d : (es.modify i fun e => { e with key := kenc k, val := vf v }).toList.map (·.born) = es.toList.map (·.born) := by
      apply List.ext_getElem?
      intro j
      simp only [List.getElem?_map, Array.getElem?_toList, Array.getElem?_modify]
      split
      · cases es[j]? <;> simp
      · rfl
    refine ⟨?_, ?_, ?_⟩
    · apply List.ext_getElem?
      intro j
      have m := congrArg (fun q => q[j]?) h.zw
      simp only [List.getElem?_map, Array.getElem?_toList] at m
      simp only [List.getElem?_map, Array.getElem?_toList, Array.getElem?_modify, List.getElem?_set]
      by_cases g : i = j
      · subst g
        simp only [if_true]
        rw [if_pos w]
        cases t : es[i]? with
        | none => rw [t, hp] at m; cases m
        | some e => rfl
      · rw [if_neg g, if_neg g]; exact m
    · have := h.born
      rw [← List.pairwise_map (f := fun e : MapEntry => e.born) (R := (· < ·))] at this ⊢
      rw [d]; exact this
    · intro e he
      have : e.born ∈ es.toList.map (·.born) := by rw [← d]; exact List.mem_map.2 ⟨e, he, rfl⟩
      obtain ⟨e', n, u⟩ := List.mem_map.1 this
      rw [← u]; exact h.lt e' n
theorem rX {W : World} {r : Nat} {es : Array MapEntry} {c : Nat} (b : W.heap[r]? = some (.map es c)) (a : Obj) : (setObj r a).run P W = .ok () (ChangeMaps.setBlock W r a) := by
  simp [setObj, Sem.run, b, ChangeMaps.setBlock]
theorem ST.setBlock {A B : List (Nat × Obj)} {b : Nat} {o : Obj} (h : ST dd F w W μ (A ++ (b, o) :: B)) (d : Obj) : ST dd F w (ChangeMaps.setBlock W b d) μ (A ++ (b, d) :: B) := by
  have g := (h.box b o (by simp)).1
  have a := gD g
  refine h.put ⟨rfl, rfl, rfl, Nat.le_refl _, by simp [ChangeMaps.setBlock]⟩ (fun k hk => ?_) ?_
  · simp only [ChangeMaps.setBlock]
    rw [Array.getElem?_setIfInBounds_ne (fun e => hk e.symm)]
  · simp only [ChangeMaps.setBlock]
    rw [Array.getElem?_setIfInBounds_self_of_lt a]
theorem we {I : Value → World → Prop} (X : List (Nat × Obj)) {Y R : List (Nat × Obj)} {t e : TypeId} {m x y : Operand} {G : Value} {l : List (κ × β)} {k : κ} {v : β} (K : ja P kt kenc beq) (M : P.underlying t = some (.map kt e)) (n : ST dd F w W μ (X ++ (R ++ Y))) (h : ek kenc vf G l R) (hm : aS E m = G) (Q : aS E x = kenc k) (T : aS E y = vf v) (L : ∀ W' R', ST dd F w W' μ (X ++ (R' ++ Y)) → ek kenc vf G (gG beq l k v) R' → I undef W') : fT P E ⟨d, .mapUpdate t m x y, ty, pos, af, g⟩ W I := by
  obtain ⟨b, es, clock, rfl, rfl, z⟩ := h
  have A : W.heap[b]? = some (.map es clock) := (n.box b (.map es clock) (by simp)).1
  have J : ((getObj b : Sem Obj)).run P W = .ok (.map es clock) W := by simp [getObj, Sem.run, A]
  have r := K.find k _ _ z.keys W
  rw [z.get k] at r
  have a := z.put (beq := beq) k v
  have j : ∀ W', (Instr.mapUpdate t (.map (some b)) (kenc k) (vf v)).run P W = .ok () W' → (execOp (aS E) ⟨d, .mapUpdate t m x y, ty, pos, af, g⟩).run P W = .ok .skip W' := by
    intro W' O
    show (do Instr.mapUpdate t (aS E m) (aS E x) (aS E y); pure .skip : Sem Next).run P W = _
    rw [hm, Q, T]
    simp [O]
  cases s : l.findIdx? (fun p => beq k p.1) with
  | none =>
    rw [s] at r a
    refine .inr (.inl ⟨ChangeMaps.setBlock W b (.map (es.push { key := kenc k, val := vf v, born := clock }) (clock + 1)), j _ ?_, L _ [(b, _)] (n.setBlock _) ⟨b, _, _, rfl, rfl, ?_⟩⟩)
    · simp [Instr.mapUpdate, run_underlying M, J, K.check, r, rX A]
    · rw [gG, s]; exact a
  | some i =>
    obtain ⟨p, hp, D⟩ := lE s
    rw [s] at r a
    simp only [Option.bind_some, hp, Option.map_some] at r
    have u : ((es[i]?).map (·.key)).getD (kenc k) = kenc k := by
      have := congrArg (fun q => q[i]?) z.keys
      simp only [List.getElem?_map, hp, Option.map_some, Array.getElem?_toList] at this
      rw [this]
      simp [K.eq k p.1 D]
    refine .inr (.inl ⟨ChangeMaps.setBlock W b (.map (es.modify i fun e => { e with key := kenc k, val := vf v }) clock), j _ ?_, L _ [(b, _)] (n.setBlock _) ⟨b, _, _, rfl, rfl, ?_⟩⟩)
    · simp only [Instr.mapUpdate, Sem.run_bind, run_underlying M, J, K.check, r, Result.andThen_ok, u, Instr.keyThatStays, K.bits, if_true, Sem.run_pure]
      exact rX A _
    · rw [gG, s]; exact a
theorem CO {b : Value → World → Prop} {t : TypeId} (kenc : κ → Value) (vf : β → Value) (a : ST dd F w W μ L) (h : ∀ W' v R, ST dd F w W' μ (R ++ L) → ek kenc vf v [] R → b v W') : fT P E ⟨d, .makeMap t none, ty, pos, af, g⟩ W b :=
  .inl ⟨.map (some W.heap.size), W.alloc (.map #[] 0), by
      show (do pure (.value (← Instr.makeMap t none)) : Sem Next).run P W = _
      simp [Instr.makeMap, newObj, Sem.run], h _ _ [(W.heap.size, .map #[] 0)] (a.alloc _) ⟨_, _, _, rfl, rfl, ⟨rfl, by simp, by simp⟩⟩⟩
end
end Go.Proofs.YtmlncblocfcmiaaGreat
namespace Go.Proofs.YtmlncblocfcmiaaGreat
open Go.RowKit
variable {dd : Bool}
open Classical in
noncomputable def ye {α β : Type} (l : List α) (f : List α → Option β) : Option β :=
  if h : ∃ r, ∀ o, o.Perm l → f o = some r then some h.choose else none
theorem Bm {α β : Type} {l : List α} {f : List α → Option β} {r : β} (h : ∀ o, o.Perm l → f o = some r) : ye l f = some r := by
  have a : ∃ r, ∀ o, o.Perm l → f o = some r := ⟨r, h⟩
  unfold ye
  rw [dif_pos a]
  have h1 := a.choose_spec l (.refl l)
  rw [h l (.refl l)] at h1
  exact h1.symm
end Go.Proofs.YtmlncblocfcmiaaGreat
namespace Go.Proofs.YtmlncblocfcmiaaGreat
open Go.RowKit
variable {dd : Bool}
def MG {α β : Type} (P : Program) (fv : Value) (μ : bW) (a : α → List Value) (b : β → Value) (pm : α → Option β) : Prop :=
  ∃ f caps, fv = .func (.func f) #[] caps ∧ (∀ args w, (callFunc f args).run P w = .ok (.enter f args) w) ∧ ∀ W x r, bO μ (hp W) → pm x = some r → bF true P f (a x ++ caps.toList) W (b r)
def ue {α β : Type} (P : Program) (fv : Value) (μ : bW) (a : α → List Value) (b : β → Value) (pm : α → Option β) : Prop :=
  ∃ f first caps, fv = .func (.func f) first caps ∧ (∀ args w, (callFunc f args).run P w = .ok (.enter f args) w) ∧ ∀ W x r, bO μ (hp W) → pm x = some r → bF false P f (first.toList ++ (a x ++ caps.toList)) W (b r)
theorem ue.form {α β : Type} {P : Program} {fv : Value} {μ : bW} {d : α → List Value} {g : β → Value} {pm : α → Option β} (h : ue P fv μ d g pm) : ∃ f a b, fv = .func f a b := let ⟨f, a, b, h, _⟩ := h; ⟨_, a, b, h⟩
section
variable {P : Program} {W : World} {E : Nat → Value} {d : Option Nat} {ty : TypeId} {pos : String} {af : Array Edge} {g : Option (Nat × Bool)} {F : Nat → Prop} {w : World} {μ μ0 : bW} {L : List (Nat × Obj)}
theorem ue.mono {α β : Type} {fv : Value} {a : α → List Value} {b : β → Value} {pm : α → Option β} (h : ue P fv μ a b pm) (i : bO μ μ0) : ue P fv μ0 a b pm := by
  obtain ⟨f, first, caps, h1, d, g⟩ := h
  exact ⟨f, first, caps, h1, d, fun W x r h => g W x r (i.trans h)⟩
theorem Il {α β : Type} {K : Value → World → Prop} {fv : Value} {b : α → List Value} {k : β → Value} {pm : α → Option β} {i : Operand} {ax : Array Operand} {ats : Array TypeId} (x : α) {r : β} (a : ST false F w W μ L) (q : ue P fv μ0 b k pm) (t : bO μ0 μ) (s : aS E i = fv) (ha : ax.map (aS E) ++ (#[] : Array Value) = (b x).toArray) (hm : pm x = some r) (h : ∀ W', ST false F w W' μ L → K (k r) W') : fT P E ⟨d, .call ⟨.value i, ax, ats⟩, ty, pos, af, g⟩ W K := by
  obtain ⟨f, first, caps, rfl, l, m⟩ := q
  have j : ax.map (aS E) = (b x).toArray := by simpa using ha
  refine .inr (.inr ⟨f, (first.toList ++ (b x ++ caps.toList)).toArray, ?_, Calls.mono (m W x r (t.trans a.aP) hm) (fun _ _ ⟨n, p⟩ => ⟨_, n, h _ (a.DO p)⟩)⟩)
  show (do let d ← resolve (aS E) ⟨.value i, ax, ats⟩ ty; invoke d.target d.args : Sem Next).run P W = _
  simp only [resolve, s, Deferred.ofValue, Sem.run_bind, Sem.run_pure, Result.andThen_ok, invoke, j, l]
  congr 2
  simp
end
end Go.Proofs.YtmlncblocfcmiaaGreat
namespace Go.Proofs.YtmlncblocfcmiaaGreat
open Go.RowKit
variable {dd : Bool}
def uj (A : List (Nat × Obj)) : bW := fun b => (A.find? (fun p => p.1 == b)).map (·.2)
theorem ep {A : List (Nat × Obj)} {W : World} (h : ∀ b o, (b, o) ∈ A → W.heap[b]? = some o) : ∀ b o, uj A b = some o → W.heap[b]? = some o := fun b o a => by
  unfold uj at a
  cases d : A.find? (fun p => p.1 == b) with
  | none => rw [d] at a; cases a
  | some p =>
    rw [d] at a
    cases a
    have h1 := List.mem_of_find?_eq_some d
    have g := List.find?_some d
    simp at g
    subst g
    exact h _ _ h1
theorem At.of {M : bW} {b : Nat} {cs : Array Value} {T : TypeId} {fr : Nat × Nat} (h : M b = some (.cells cs T fr)) (ys : List Value) (d : cs.toList = ys) : At M (.pointer (some ⟨b, 0, none⟩)) ys :=
  ⟨b, 0, cs, T, fr, rfl, h, fun j y a => by subst d; simpa using a⟩
section
variable {F : Nat → Prop} {w W W' : World} {μ μ' : bW} {L L0 L1 L2 : List (Nat × Obj)}
theorem ST.Ft (h : ST dd F w W μ L) (a : L.Perm (L0 ++ L2)) : ∀ b o, (b, o) ∈ L2 → nP W L0 b = some o := fun b o d => by
  have h1 := (h.perm a).at_ (List.mem_append_right _ d)
  unfold nP
  rw [if_neg (zm (h.perm a).nd d)]
  exact h1
theorem ST.held (h : ST dd F w W μ L) (a : L.Perm (L0 ++ L2)) : yT L0 W := fun b o d => ((h.perm a).box b o (List.mem_append_left _ d)).1
theorem ST.KL (h : ST dd F w W μ L) (a : L.Perm (L0 ++ L2)) : (L0.map (·.1)).Nodup := by
  have := (h.perm a).nd
  rw [List.map_append] at this
  exact (List.nodup_append.1 this).1
theorem ST.KP (h : ST dd F w W μ L) (a : L.Perm (L0 ++ L2)) : bO μ (nP W L0) := (h.perm a).cJ (fun _ hp => List.mem_append_left _ hp)
end
section
variable {P : Program} {E : Nat → Value} {W : World} {d : Option Nat} {ty : TypeId} {pos : String} {af : Array Edge} {g : Option (Nat × Bool)}
  {F : Nat → Prop} {w : World} {μ : bW} {L : List (Nat × Obj)}
theorem Kp {K : Value → World → Prop} {K' : Value → List (Nat × Obj) → World → Prop} {f : FuncId} {fv : Operand} {ax : Array Operand} {ats : Array TypeId} {caps : Array Value} {args : List Value} (L0 L2 : List (Nat × Obj)) (a : ST dd F w W μ L) (i : L.Perm (L0 ++ L2)) (n : aS E fv = .func (.func f) #[] caps) (he : ∀ args w, (callFunc f args).run P w = .ok (.enter f args) w) (ha : ax.map (aS E) ++ (#[] : Array Value) = args.toArray) (m : yT L0 W → (L0.map (·.1)).Nodup → bO μ (nP W L0) → (∀ b o, (b, o) ∈ L2 → nP W L0 b = some o) → dV dd P f (args ++ caps.toList) W L0 K') (h : ∀ W' v μ' L1, ST dd F w W' μ' (L1 ++ L2) → bO μ μ' → Lo F w μ μ' → (∀ b, W.heap.size ≤ b → ∀ o, nP W' L1 b = some o → μ' b = some o) → K' v L1 W' → K v W') : fT P E ⟨d, .call ⟨.value fv, ax, ats⟩, ty, pos, af, g⟩ W K := by
  have j : ax.map (aS E) = args.toArray := by simpa using ha
  refine zr (args := (args ++ caps.toList).toArray) n he (by rw [j]; simp) (Calls.mono (m (a.held i) (a.KL i) (a.KP i) (a.Ft i)) (fun _ W' ⟨v, L1, h1, k, l⟩ => ⟨v, h1, h W' v _ L1 ((a.perm i).back k) ((a.perm i).Dg W' L1) ((a.perm i).EI W' L1) ?_ l⟩))
  intro b q o p
  unfold vN
  rw [if_neg (by omega)]
  exact p
theorem Sl.lift {α : Type} {enc : α → List Value} {k : Nat} {M μ' : bW} {B : Nat} {v : Value} {l : List α} (h : Sl (Pl enc) k M v l) (p : Fr B v) (n : ∀ b, B ≤ b → ∀ o, M b = some o → μ' b = some o) : Sl (Pl enc) k μ' v l := by
  obtain ⟨A, c, h1, d, g, i⟩ := h
  refine ⟨A, c, h1, d, g, fun q => ?_⟩
  obtain ⟨b, off, cs, T, fr, a, j, m⟩ := i q
  exact ⟨b, off, cs, T, fr, a, n b (p b (by rw [h1, a]; rfl)) _ j, m⟩
theorem Ay {t : TypeId} (dd : Nat) {s u : Array TypeId} {b : Bool} (d : P.underlying t = some (.func s u b)) (f : Fn) (a c : Array Value) (W : World) : (Op.equalIn (dd + 1) t (.func f a c) .nilFunc).run P W = .ok false W := by
  simp [Op.equalIn, run_underlying d]
end
def tI {κ β : Type} (beq : κ → κ → Bool) (l : List (κ × β)) (k : κ) (z : β) : β := (dE beq l k).getD z
section
variable {P : Program} {W : World} {κ β : Type} {kt : TypeId} {kenc : κ → Value} {beq : κ → κ → Bool} {vf : β → Value} {E : Nat → Value} {d : Option Nat} {ty : TypeId} {pos : String} {af : Array Edge} {g : Option (Nat × Bool)} {F : Nat → Prop} {w : World} {μ : bW} {L R : List (Nat × Obj)} {v : Value} {left : List (κ × β)}
theorem tR {t e : TypeId} {m x : Operand} {a : Value} {l : List (κ × β)} {k : κ} {z : β} (K : ja P kt kenc beq) (i : P.underlying t = some (.map kt e)) (n : ∀ w, (zeroValue e).run P w = .ok (vf z) w) (hm : aS E m = a) (j : aS E x = kenc k) (b : pH kenc vf (hp W) a l) :
    et P E ⟨d, .lookup t m x false, ty, pos, af, g⟩ W (vf (tI beq l k z)) W := by
  have := D1 (d := d) (ty := ty) (pos := pos) (af := af) (g := g) K i n hm j b
  rw [tI]
  cases h : dE beq l k with
  | none => rw [h] at this; exact this
  | some y => rw [h] at this; exact this
theorem ek.one {a : Value} {l : List (κ × β)} (h : ek kenc vf a l R) : a.oneCell' = true := by obtain ⟨m, es, clock, rfl, _⟩ := h; rfl
theorem ek.form {a : Value} {l : List (κ × β)} (h : ek kenc vf a l R) : ∃ m, a = .map (some m) := by obtain ⟨m, es, clock, rfl, _⟩ := h; exact ⟨m, rfl⟩
theorem ek.nd {a : Value} {l : List (κ × β)} (h : ek kenc vf a l R) : (R.map (·.1)).Nodup := by obtain ⟨m, es, clock, rfl, rfl, _⟩ := h; simp
end
def ib {α : Type} (l : List α) (i : Nat) (z : α) : List α := l.take i ++ List.replicate (l.length - i) z
theorem oW {α : Type} (l : List α) (i : Nat) (z : α) (h : i ≤ l.length) : (ib l i z).length = l.length := by simp [ib]; omega
theorem zV {α : Type} (l : List α) (i : Nat) (z : α) (h : i ≤ l.length) : (ib l i z).take i = l.take i := by
  simp only [ib]
  rw [List.take_append, List.take_of_length_le (by simp; omega)]
  simp; omega
end Go.Proofs.YtmlncblocfcmiaaGreat
namespace Go.Proofs.YtmlncblocfcmiaaGreat
open Go.RowKit
theorem CY {P : Program} {cs : Array Value} {b : Bool} {n : Nat} {W : World} : ∀ (l : List Field),
    (∀ f ∈ l, f.name ≠ "_" → ∃ v, (part f.type cs f.offset).run P W = .ok v W ∧ (Instr.checkKey b n f.type v).run P W = .ok () W) →
    ((forIn l PUnit.unit fun f (_ : PUnit) => do
      if f.name ≠ "_" then Instr.checkKey b n f.type (← part f.type cs f.offset)
      pure (ForInStep.yield PUnit.unit)) : Sem PUnit).run P W = .ok PUnit.unit W
  | [], _ => by simp
  | f :: l, h => by
    have ih := CY l (fun f g => h f (List.mem_cons_of_mem _ g))
    simp only [List.forIn_cons, Sem.run_bind]
    by_cases a : f.name ≠ "_"
    · obtain ⟨v, h1, d⟩ := h f (by simp) a
      simp only [if_pos a, Sem.run_bind, h1, Result.andThen_ok, d, Sem.run_pure]
      exact ih
    · simp only [if_neg a, Sem.run_bind, Sem.run_pure, Result.andThen_ok]
      exact ih
theorem BT {P : Program} {kt : TypeId} {fs : Array Field} {l : List Field} {cs : Array Value} {b : Bool} {n : Nat} {W : World} (d : P.underlying kt = some (.struct fs)) (a : fs.toList = l) (h : ∀ f ∈ l, f.name ≠ "_" → ∃ v, (part f.type cs f.offset).run P W = .ok v W ∧ (Instr.checkKey b n f.type v).run P W = .ok () W) : (Instr.checkKey b (n + 1) kt (.agg cs)).run P W = .ok () W := by
  obtain ⟨fs⟩ := fs
  subst a
  simp only [Instr.checkKey, Sem.run_bind, run_underlying d, Result.andThen_ok, List.forIn_toArray]
  have := CY (P := P) (cs := cs) (b := b) (n := n) (W := W) fs h
  simp only [Sem.run_bind] at this
  first | rw [this]; rfl | simpa using this
end Go.Proofs.YtmlncblocfcmiaaGreat
namespace Go.Proofs.YtmlncblocfcmiaaGreat
open Go.RowKit
variable {dd : Bool}
def lV (b : Bool) : Option Unit := if b = true then some () else none
theorem Em {b : Bool} {u : Unit} (h : lV b = some u) : b = true := by
  unfold lV at h; split at h
  · assumption
  · cases h
theorem oM {a c : Int} {u : Unit} (h : lV (decide (0 ≤ a) && decide (a ≤ c)) = some u) : 0 ≤ a := by have := Em h; simp at this; exact this.1
theorem oL {a c : Int} {u : Unit} (h : lV (decide (0 ≤ a) && decide (a ≤ c)) = some u) : a ≤ c := by have := Em h; simp at this; exact this.2
def uC (k : Nat) (v : Value) (i : Nat) (u : Value) : Prop := ∃ A n c A' a, v = .slice A n c ∧ u = .slice A' (n - i) a ∧ i ≤ n ∧ (i < n → ∃ b o, A = some ⟨b, o, none⟩ ∧ A' = some ⟨b, o + i * k, none⟩)
section
variable {P : Program} {E : Nat → Value} {W : World} {d : Option Nat} {ty : TypeId} {pos : String} {af : Array Edge} {g : Option (Nat × Bool)}
  {F : Nat → Prop} {w : World} {μ : bW} {L : List (Nat × Obj)} {α : Type} {e' : TypeId} {enc : α → List Value} {k : Nat} {v : Value} {l : List α} {R : List (Nat × Obj)}
theorem tu {t e : TypeId} {x a : Operand} {y : IntKind} {i : Int} (n : P.underlying t = some (.slice e)) (he : ∀ w, (sizeOf e).run P w = .ok k w) (p : aS E x = v) (j : aS E a = .int y i) (h : bG e' enc k v l R) (q : 0 ≤ i) (m : i ≤ l.length) :
    ∃ u, uC k v i.toNat u ∧ ∀ W, et P E ⟨d, .slice t x (some a) none none, ty, pos, af, g⟩ W u W := by
  rcases h with ⟨rfl, rfl, rfl⟩ | ⟨b, cap, cur, rfl, rfl, h1, z, A, D⟩
  · have : i = 0 := by simp at m; omega
    subst this
    refine ⟨.slice none 0 0, ⟨none, 0, 0, none, 0, rfl, rfl, Nat.le_refl _, fun h => absurd h (by simp)⟩, fun W => ?_⟩
    show (do pure (.value (← Instr.sliceAt t (aS E x) (some (aS E a)) none none)) : Sem Next).run P W = _
    rw [p, j]
    simp [Instr.sliceAt, Instr.slice, Instr.sliceBounds, Instr.sliceBound, asIntOf, run_underlying n, he W]
  · refine ⟨.slice (some (if cap = i.toNat then ⟨b, 0, none⟩ else (Addr.add ⟨b, 0, none⟩ (i.toNat * k)))) (l.length - i.toNat) (cap - i.toNat), ⟨_, _, _, _, _, rfl, rfl, by omega, fun s => ⟨b, 0, rfl, ?_⟩⟩, fun W => ?_⟩
    · rw [if_neg (by omega)]; simp [Addr.add_lit]
    · show (do pure (.value (← Instr.sliceAt t (aS E x) (some (aS E a)) none none)) : Sem Next).run P W = _
      rw [p, j]
      have r : 0 ≤ i ∧ i ≤ (l.length : Int) := ⟨q, m⟩
      simp [Instr.sliceAt, Instr.slice, Instr.sliceBounds, Instr.sliceBound, asIntOf, run_underlying n, he W, r]
      split <;> rfl
theorem vl {i j : Nat} {x0 : α} (h : (l.drop i)[j]? = some x0) : l[i + j]? = some x0 := by rwa [List.getElem?_drop] at h
theorem CP {t e : TypeId} {x : Operand} {u : Value} {i : Nat} (b : P.underlying t = some (.slice e)) (j : aS E x = u) (hu : uC k v i u) (h : bG e' enc k v l R) : et P E ⟨d, .call ⟨.builtin .len, #[x], #[t]⟩, ty, pos, af, g⟩ W (.int .i64 ((l.length - i : Nat) : Int)) W := by
  obtain ⟨A, n, c, A', m, h1, a, q, _⟩ := hu
  subst a
  have : n = l.length := by
    rcases h with ⟨rfl, rfl, rfl⟩ | ⟨p, cap, cur, rfl, rfl, _⟩
    · cases h1; rfl
    · cases h1; rfl
  subst this
  exact uF b j
theorem tz {t e : TypeId} {x m : Operand} {L : IntKind} {i : Int} {x0 : α} {u : Value} {o : Nat} (I : P.underlying t = some (.slice e)) (he : ∀ w, (sizeOf e).run P w = .ok k w) (J : aS E x = u) (F : aS E m = .int L i) (h : bG e' enc k v l R) (hu : uC k v o u) (y : 0 ≤ i) (G : (l.drop o)[i.toNat]? = some x0) :
    ∃ p, uu R k p (o + i.toNat) ∧ ∀ W, et P E ⟨d, .indexAddr t x m, ty, pos, af, g⟩ W p W := by
  have a := vl G
  have j : o + i.toNat < l.length := (List.getElem?_eq_some_iff.1 a).1
  rcases h with ⟨rfl, rfl, rfl⟩ | ⟨s, cap, cur, rfl, rfl, h1, O, Q, T⟩
  · simp at j
  obtain ⟨A, n, c, A', M, q, rfl, U, z⟩ := hu
  cases q
  obtain ⟨b, Y, r, rfl⟩ := z (by omega)
  cases r
  refine ⟨.pointer (some ⟨s, (o + i.toNat) * k, none⟩), ⟨_, _, rfl, rfl⟩, fun W => ?_⟩
  show (do pure (.value (← Instr.indexAt t (aS E x) (aS E m))) : Sem Next).run P W = _
  rw [J, F]
  have D : 0 ≤ i ∧ i < ((l.length - o : Nat) : Int) := ⟨y, by omega⟩
  simp [Instr.indexAt, asIntOf, run_underlying I, he W, D, Addr.add_lit, Nat.add_mul]
theorem Cv (ys : List Value) (m : Nat) : (Builtin.zeroCells ys.toArray m).toList = (List.replicate m ys).flatten := by
  unfold Builtin.zeroCells
  simp only [Array.toList_map, Array.toList_range, List.size_toArray]
  rcases Nat.eq_zero_or_pos ys.length with a | a
  · have : ys = [] := List.length_eq_zero_iff.1 a
    subst this
    simp
  apply List.ext_getElem?
  intro q
  by_cases d : q < m * ys.length
  · have h1 : q / ys.length < m := (Nat.div_lt_iff_lt_mul a).2 d
    have b : q % ys.length < ys.length := Nat.mod_lt _ a
    have := qb (enc := fun _ : Unit => ys) (fun _ => rfl) (List.replicate m ()) (q / ys.length) () (by simp [h1]) (q % ys.length) ys[q % ys.length] (by simp [b])
    rw [Nat.div_add_mod' q ys.length] at this
    rw [List.map_replicate] at this
    rw [this]
    simp [d, b]
  · rw [List.getElem?_eq_none (by simp; omega), List.getElem?_eq_none (by simp; omega)]
theorem E6 {K : Value → World → Prop} (z : α) (X : List (Nat × Obj)) {Y : List (Nat × Obj)} {t e : TypeId} {x : Operand} {u T : Value} {i : Nat} (j : ST dd F w W μ (X ++ (R ++ Y))) (h : bG e' enc k v l R) (hk : ∀ x, (enc x).length = k) (h1 : ∀ x, ∀ u ∈ enc x, u.oneCell' = true) (L : P.underlying t = some (.slice e)) (hz : ∀ w, (zeroValue e).run P w = .ok T w) (hu : uC k v i u) (hc : T.cells = (enc z).toArray) (hx : aS E x = u) (I : ∀ W' R', ST dd F w W' μ (X ++ (R' ++ Y)) → bG e' enc k v (ib l i z) R' → K (.tuple #[]) W') : fT P E ⟨d, .call ⟨.builtin .clear, #[x], #[t]⟩, ty, pos, af, g⟩ W K := by
  have a : ∀ (W' : World), (Builtin.clear_ #[t] ty #[u]).run P W = .ok (.tuple #[]) W' → (execOp (aS E) ⟨d, .call ⟨.builtin .clear, #[x], #[t]⟩, ty, pos, af, g⟩).run P W = .ok (.value (.tuple #[])) W' := by
    intro W' hV
    show (do let d ← resolve (aS E) ⟨.builtin .clear, #[x], #[t]⟩ ty; invoke d.target d.args : Sem Next).run P W = _
    simp [resolve, invoke, builtin, hx, hV]
  obtain ⟨A, n, c, A', c', U, rfl, s, h8⟩ := hu
  rcases h with ⟨rfl, rfl, rfl⟩ | ⟨q, cap, cur, rfl, rfl, Q, q2, D, q4⟩
  · cases U
    refine .inl ⟨_, W, a W ?_, I W [] j (by simpa [ib] using bG.nil e' enc k)⟩
    simp only [Builtin.clear_, Nat.zero_sub]
    cases A' <;> simp [run_underlying L]
  · cases U
    by_cases hi : i < l.length
    · obtain ⟨b, o, e2, rfl⟩ := h8 hi
      cases e2
      have O : ∀ m, (Builtin.zeroCells T.cells m).toList = (List.replicate m (enc z)).flatten := by
        intro m
        rw [hc]; exact Cv _ _
      have hb := (j.box q (.cells cur e' (0, 0)) (by simp)).1
      have hle : i * k + (l.length - i) * k = l.length * k := by rw [← Nat.add_mul]; congr 1; omega
      have hlen : l.length * k ≤ c * k := Nat.mul_le_mul_right _ Q
      have p : ((List.replicate (l.length - i) (enc z)).flatten).length = (l.length - i) * k := by simp [hk]
      have r : ∀ v ∈ (List.replicate (l.length - i) (enc z)).flatten, v.oneCell' = true := by
        intro v y
        obtain ⟨ys, M, y⟩ := List.mem_flatten.1 y
        rw [(List.mem_replicate.1 M).2] at y
        exact h1 z v y
      have hs := run_storeCells_at (P := P) q (i * k) e' ((List.replicate (l.length - i) (enc z)).flatten) 0 cur W hb (by rw [p, D]; omega) r
      rw [Nat.add_zero, p, hle] at hs
      refine .inl ⟨_, W.setRow q (cur.toList.take (i * k) ++ (List.replicate (l.length - i) (enc z)).flatten ++ cur.toList.drop (l.length * k)).toArray, a _ ?_, I _ [(q, .cells (cur.toList.take (i * k) ++ (List.replicate (l.length - i) (enc z)).flatten ++ cur.toList.drop (l.length * k)).toArray e' (0, 0))] (j.store _) (.inr ⟨q, c, _, by rw [oW _ _ _ s], rfl, by rw [oW _ _ _ s]; exact Q, q2, ?_, ?_⟩)⟩
      · have hn : l.length - i = (l.length - i - 1) + 1 := by omega
        simp only [Builtin.clear_]
        rw [hn]
        simp only [run_underlying L, Sem.run_bind, Result.andThen_ok, List.getElem?_toArray, List.getElem?_cons_zero, hz, Nat.zero_add]
        rw [← hn, O, hs]
        simp
      · have G : cur.toList.length = c * k := by simpa using D
        rw [List.size_toArray, List.length_append, List.length_append, List.length_take, List.length_drop, p, G, Nat.min_eq_left (by omega)]
        omega
      · rw [oW _ _ _ s, ib, List.map_append, List.flatten_append, za hk l i s, ← q4, List.take_take, Nat.min_eq_left (by omega), List.map_replicate]
        have G : cur.toList.length = c * k := by simpa using D
        have Z : (cur.toList.take (i * k) ++ (List.replicate (l.length - i) (enc z)).flatten).length = l.length * k := by rw [List.length_append, List.length_take, p, G, Nat.min_eq_left (by omega)]; omega
        show List.take (l.length * k) (cur.toList.take (i * k) ++ (List.replicate (l.length - i) (enc z)).flatten ++ cur.toList.drop (l.length * k)) = _
        rw [List.take_append, List.take_of_length_le (by rw [Z]; exact Nat.le_refl _), Z, Nat.sub_self]
        simp
    · have J : i = l.length := by omega
      subst J
      refine .inl ⟨_, W, a W ?_, I W _ j ?_⟩
      · simp only [Builtin.clear_, Nat.sub_self]
        cases A' <;> simp [run_underlying L]
      · simp only [ib, List.take_length, Nat.sub_self, List.replicate_zero, List.append_nil]
        exact .inr ⟨q, c, cur, rfl, rfl, Q, q2, D, q4⟩
end
end Go.Proofs.YtmlncblocfcmiaaGreat
namespace Go.Proofs.YtmlncblocfcmiaaGreat
open Go.RowKit
variable {dd : Bool}
section
variable {P : Program} {E : Nat → Value} {W : World} {d : Option Nat} {ty : TypeId} {pos : String} {af : Array Edge} {g : Option (Nat × Bool)}
  {F : Nat → Prop} {w : World} {μ : bW} {L : List (Nat × Obj)}
theorem F9 {K : Value → World → Prop} {f : FuncId} {fv : Operand} {ax : Array Operand} {ats : Array TypeId} {args : List Value} {v : Value} (b : aS E fv = .func (.func f) #[] #[]) (ha : ax.map (aS E) ++ (#[] : Array Value) = args.toArray) (i : (callFunc f args.toArray).run P W = .ok (.value v) W) (h : K v W) : fT P E ⟨d, .call ⟨.value fv, ax, ats⟩, ty, pos, af, g⟩ W K := by
  have a : ax.map (aS E) = args.toArray := by simpa using ha
  refine .inl ⟨v, W, ?_, h⟩
  show (do let d ← resolve (aS E) ⟨.value fv, ax, ats⟩ ty; invoke d.target d.args : Sem Next).run P W = _
  simp only [resolve, b, Deferred.ofValue, Sem.run_bind, Sem.run_pure, Result.andThen_ok, invoke]
  rw [a]
  simpa using i
def qn (s : ByteArray) (c : Int) : Int := Lib.indexByte s.data.toList c.toNat.toUInt8
def iM (a b : ByteArray) : Int := Lib.compareBytes a.data.toList b.data.toList
def nv (l : List Int) : List UInt8 := l.map fun x => x.toNat.toUInt8
def rJ (a b : List Int) : Int := Lib.compareBytes (nv a) (nv b)
theorem B7 {f : FuncId} {fn : Func} (d : P.funcs[f]? = some fn) (a : (fn.name == "runtime.NumGoroutine") = false) (b : fn.body.isNone = true) (g : Extern.findNext fn = none) (he : Extern.find fn = some Extern.BytealgIndexByte.indexByte) (s : ByteArray) (c : Int) (w : World) :
    (callFunc f [Value.string s, .int .u8 c].toArray).run P w = .ok (.value (.int .i64 (qn s c))) w := by
  rw [run_callFunc_extern d a b g he]
  rw [Lib.run_indexByteString]
  rfl
theorem Ip {f : FuncId} {fn : Func} (h : P.funcs[f]? = some fn) (d : (fn.name == "runtime.NumGoroutine") = false) (g : fn.body.isNone = true) (i : Extern.findNext fn = none) (he : Extern.find fn = some Extern.BytealgCompare.compare) (a b : ByteArray) (w : World) :
    (callFunc f [Value.string a, .string b].toArray).run P w = .ok (.value (.int .i64 (iM a b))) w := by
  rw [run_callFunc_extern h d g i he]
  rw [Lib.run_compareString]
  rfl
theorem xP {v : Value} {l : List Int} (h : Sl (Pl (dM .u8)) 1 (hp W) v l) : (Extern.Bytes.bytesOf v).run P W = .ok ⟨(nv l).toArray⟩ W := by
  obtain ⟨A, c, rfl, p, q, i⟩ := h
  rcases Nat.eq_zero_or_pos l.length with a | a
  · have : l = [] := List.length_eq_zero_iff.1 a
    subst this
    cases A <;> simp [Extern.Bytes.bytesOf, Extern.Bytes.loadBytes, nv] <;> rfl
  · obtain ⟨b, off, cs, T, fr, rfl, k, m⟩ := i a
    have := Lib.run_loadBytesX (P := P) W l ⟨b, off, none⟩ .empty (fun j x n => by
      obtain ⟨ys, _, g, d⟩ := m j x n
      cases g
      rw [Addr.add_lit, cell_of_row W b (off + j) cs T fr k]
      have := d 0 (.int .u8 x) rfl
      simpa using this)
    simp only [Extern.Bytes.bytesOf]
    rw [this]
    congr 1
    apply ByteArray.ext
    show (#[] : Array UInt8) ++ _ = _
    simp [Lib.bytesOf, nv]
theorem Io {f : FuncId} {fn : Func} (k : P.funcs[f]? = some fn) (d : (fn.name == "runtime.NumGoroutine") = false) (j : fn.body.isNone = true) (l : Extern.findNext fn = none) (he : Extern.find fn = some Extern.BytealgCompare.compare) {g h : Value} {a b : List Int} (h1 : Sl (Pl (dM .u8)) 1 (hp W) g a) (i : Sl (Pl (dM .u8)) 1 (hp W) h b) :
    (callFunc f [g, h].toArray).run P W = .ok (.value (.int .i64 (rJ a b))) W := by
  rw [run_callFunc_extern k d j l he]
  have : (Extern.BytealgCompare.compare [g, h].toArray).run P W = .ok (.int .i64 (rJ a b)) W := by
    change Sem.run P (do pure (goInt (Extern.BytealgCompare.cmp (← Extern.Bytes.bytesOf g) (← Extern.Bytes.bytesOf h)))) W = _
    simp only [Sem.run_bind, xP h1, xP i, Sem.run_pure, Result.andThen]
    rw [Lib.cmp_eq]
    rfl
  rw [this]
  rfl
theorem A4 {t e : TypeId} {k b m c o : Nat} {x a : Operand} {s : IntKind} {i : Int} (q : P.underlying t = some (.slice e)) (he : ∀ w, (sizeOf e).run P w = .ok k w) (r : aS E x = .slice (some ⟨b, 0, none⟩) m c) (l : aS E a = .int s i) (h : 0 ≤ i) (n : i < (m : Int)) (p : i.toNat * k = o) :
    et P E ⟨d, .indexAddr t x a, ty, pos, af, g⟩ W (.pointer (some ⟨b, o, none⟩)) W := by
  show (do pure (.value (← Instr.indexAt t (aS E x) (aS E a))) : Sem Next).run P W = _
  rw [r, l]
  subst p
  have j : 0 ≤ i ∧ i < (m : Int) := ⟨h, n⟩
  simp [Instr.indexAt, asIntOf, run_underlying q, he W, j, Addr.add_lit]
theorem lF {fn : Fn} {caps : Array Operand} {cs : List Value} {v : Value} (a : caps.map (aS E) ++ (#[] : Array Value) = cs.toArray) (b : .func fn #[] cs.toArray = v) : et P E ⟨d, .makeFunc fn #[] caps, ty, pos, af, g⟩ W v W := by
  have : caps.map (aS E) = cs.toArray := by simpa using a
  exact Gu (by rw [this]; simpa using b)
theorem dV.mono {f : FuncId} {args : List Value} {L0 : List (Nat × Obj)} {K K' : Value → List (Nat × Obj) → World → Prop} (h : dV dd P f args w L0 K) (hk : ∀ v L1 W', K v L1 W' → K' v L1 W') : dV dd P f args w L0 K' :=
  Calls.mono h (fun _ _ ⟨v, L1, h1, a, b⟩ => ⟨v, L1, h1, a, hk _ _ _ b⟩)
end
section
variable {α : Type}
def nO (cf : α × α → Option Int) (x y : α) : Bool := match cf (x, y) with
  | some c => decide (c < 0)
  | none => false
structure yM (cf : α × α → Option Int) (l : List α) : Prop where
  is : ∀ x ∈ l, ∀ y ∈ l, ∃ c, cf (x, y) = some c
  irrefl : ∀ x ∈ l, nO cf x x = false
  trans : ∀ x ∈ l, ∀ y ∈ l, ∀ z ∈ l, nO cf x y = true → nO cf y z = true → nO cf x z = true
  total : ∀ x ∈ l, ∀ y ∈ l, nO cf x y = false → nO cf y x = false → x = y
  short : l.length < 4611686018427387904
def ni (cf : α × α → Option Int) (l : List α) : List α := l.mergeSort fun x y => !nO cf y x
open Classical in
noncomputable def tD (cf : α × α → Option Int) (l : List α) : Option (List α) := if yM cf l then some (ni cf l) else none
theorem Bq {cf : α × α → Option Int} {l r : List α} (h : tD cf l = some r) : yM cf l ∧ r = ni cf l := by
  unfold tD at h
  split at h
  · rename_i a; cases h; exact ⟨a, rfl⟩
  · cases h
theorem IZ {cf : α × α → Option Int} {l : List α} (h : yM cf l) : tD cf l = some (ni cf l) := by
  unfold tD; rw [if_pos h]
def oy (l : List ByteArray) : List ByteArray := l.mergeSort fun x y => !jB y x
end
end Go.Proofs.YtmlncblocfcmiaaGreat
namespace Go.Proofs.YtmlncblocfcmiaaGreat
open Go.RowKit
variable {dd : Bool}
def qa {κ γ : Type} (Q : Value → γ → List (Nat × Obj) → Prop) : List (κ × Value) → List (κ × γ) → List (Nat × Obj) → Prop
  | [], [], R => R = []
  | p :: a, q :: l, R => p.1 = q.1 ∧ ∃ R1 R2, R = R1 ++ R2 ∧ Q p.2 q.2 R1 ∧ qa Q a l R2
  | _, _, _ => False
def fl {κ γ : Type} (kenc : κ → Value) (Q : Value → γ → List (Nat × Obj) → Prop) (v : Value) (d : List (κ × Value)) (l : List (κ × γ)) (R : List (Nat × Obj)) : Prop :=
  ∃ a b, R = a ++ b ∧ ek kenc (fun x => x) v d a ∧ qa Q d l b
section
variable {κ γ : Type} {Q : Value → γ → List (Nat × Obj) → Prop} {beq : κ → κ → Bool} {kenc : κ → Value}
theorem qa.keys : ∀ {a : List (κ × Value)} {l : List (κ × γ)} {R : List (Nat × Obj)}, qa Q a l R → a.map (·.1) = l.map (·.1)
  | [], [], _, _ => rfl
  | [], _ :: _, _, h => h.elim
  | _ :: _, [], _, h => h.elim
  | p :: a, q :: l, R, h => by
    obtain ⟨h1, R1, R2, _, _, b⟩ := h
    simp [h1, qa.keys b]
theorem qa.find {a : List (κ × Value)} {l : List (κ × γ)} {R : List (Nat × Obj)} (h : qa Q a l R) (k : κ) : a.findIdx? (fun p => beq k p.1) = l.findIdx? (fun p => beq k p.1) := by
  have h1 : (a.map (·.1)).findIdx? (fun x => beq k x) = (l.map (·.1)).findIdx? (fun x => beq k x) := by rw [h.keys]
  rw [List.findIdx?_map, List.findIdx?_map] at h1
  exact h1
theorem qa.get : ∀ {d : List (κ × Value)} {l : List (κ × γ)} {R : List (Nat × Obj)}, qa Q d l R → ∀ (i : Nat) (k : κ) (x : γ), l[i]? = some (k, x) →
    ∃ v A R1 B, d[i]? = some (k, v) ∧ R = A ++ (R1 ++ B) ∧ Q v x R1 ∧ ∀ b v2 x2 R2, Q v2 x2 R2 → qa Q (d.set i (b, v2)) (l.set i (b, x2)) (A ++ (R2 ++ B))
  | [], [], _, _, i, k, x, a => by simp at a
  | [], _ :: _, _, h, _, _, _, _ => h.elim
  | _ :: _, [], _, h, _, _, _, _ => h.elim
  | p :: d, q :: l, R, h, 0, k, x, a => by
    obtain ⟨h1, R1, R2, rfl, g, j⟩ := h
    simp at a
    subst a
    refine ⟨p.2, [], R1, R2, by simp only [List.getElem?_cons_zero]; exact congrArg some (Prod.ext h1 rfl), rfl, g, fun b v2 x2 R2' m => ⟨rfl, R2', R2, rfl, m, j⟩⟩
  | p :: d, q :: l, R, h, i + 1, k, x, a => by
    obtain ⟨h1, R1, R2, rfl, g, j⟩ := h
    simp at a
    obtain ⟨v, A, R1', B, g1, rfl, g3, g4⟩ := qa.get j i k x a
    exact ⟨v, R1 ++ A, R1', B, by simpa using g1, by simp, g3, fun b v2 x2 R2' m => ⟨h1, R1, A ++ (R2' ++ B), by simp, g, g4 b v2 x2 R2' m⟩⟩
theorem qa.push : ∀ {b : List (κ × Value)} {l : List (κ × γ)} {R : List (Nat × Obj)}, qa Q b l R → ∀ (k : κ) {v : Value} {x : γ} {R1 : List (Nat × Obj)}, Q v x R1 → qa Q (b ++ [(k, v)]) (l ++ [(k, x)]) (R ++ R1)
  | [], [], _, h, k, v, x, R1, a => by
    have i : _ = [] := h
    subst i
    exact ⟨rfl, R1, [], by simp, a, rfl⟩
  | [], _ :: _, _, h, _, _, _, _, _ => h.elim
  | _ :: _, [], _, h, _, _, _, _, _ => h.elim
  | p :: b, q :: l, R, h, k, v, x, R1, a => by
    obtain ⟨h1, d, g, rfl, j, m⟩ := h
    exact ⟨h1, d, g ++ R1, by simp, j, qa.push m k a⟩
theorem fl.found {t : Value} {d : List (κ × Value)} {l : List (κ × γ)} {R : List (Nat × Obj)} (hk : ∀ {x y : κ}, beq x y = true → x = y) (h : fl kenc Q t d l R) {k : κ} {x : γ} (b : dE beq l k = some x) :
    ∃ v A R1 B, dE beq d k = some v ∧ R = A ++ (R1 ++ B) ∧ Q v x R1 ∧ (∀ x2 R2, Q v x2 R2 → fl kenc Q t d (gG beq l k x2) (A ++ (R2 ++ B))) := by
  obtain ⟨r, D, rfl, u, s⟩ := h
  rw [rB] at b
  cases g : l.findIdx? (fun p => beq k p.1) with
  | none => rw [g] at b; cases b
  | some i =>
    rw [g] at b
    obtain ⟨p, hp, w⟩ := lE g
    simp only [Option.bind_some, hp, Option.map_some, Option.some.injEq] at b
    subst b
    have q := hk w
    obtain ⟨v, A, R1, B, g1, rfl, g3, g4⟩ := s.get i p.1 p.2 hp
    have m : d.findIdx? (fun p => beq k p.1) = some i := by rw [s.find k, g]
    refine ⟨v, r ++ A, R1, B, by rw [rB, m]; simp [g1], by simp, g3, fun x2 R2 z => ⟨r, A ++ (R2 ++ B), by simp, u, ?_⟩⟩
    have a := g4 k v x2 R2 z
    have e : d.set i (k, v) = d := by
      apply List.ext_getElem?
      intro j
      rw [List.getElem?_set]
      split
      · rename_i n
        subst n
        rw [g1, q]
        simp [(List.getElem?_eq_some_iff.1 g1).1]
      · rfl
    rw [e] at a
    rw [gG, g]
    exact a
theorem fl.Gb {j : Value} {d : List (κ × Value)} {l : List (κ × γ)} {R : List (Nat × Obj)} (h : fl kenc Q j d l R) {k : κ} (a : dE beq l k = none) : dE beq d k = none := by
  obtain ⟨m, n, rfl, q, g⟩ := h
  rw [rB] at a ⊢
  rw [g.find k]
  cases b : l.findIdx? (fun p => beq k p.1) with
  | none => rfl
  | some i =>
    rw [b] at a
    obtain ⟨p, hp, r⟩ := lE b
    simp [hp] at a
def kO (beq : κ → κ → Bool) (a : List (κ × Value)) (k : κ) (z : Value) : Value := (dE beq a k).getD z
variable {P : Program} {W : World} {kt : TypeId} {E : Nat → Value} {d : Option Nat} {ty : TypeId} {pos : String} {af : Array Edge} {g : Option (Nat × Bool)} {F : Nat → Prop} {w : World} {μ : bW} {L : List (Nat × Obj)}
theorem iO {t e : TypeId} {m x : Operand} {i z : Value} {a : List (κ × Value)} {l : List (κ × γ)} {R : List (Nat × Obj)} {k : κ} (K : ja P kt kenc beq) (r : P.underlying t = some (.map kt e)) (u : ∀ w, (zeroValue e).run P w = .ok z w) (hm : aS E m = i) (s : aS E x = kenc k) (p : fl kenc Q i a l R) (q : ∀ b o, (b, o) ∈ R → W.heap[b]? = some o) : et P E ⟨d, .lookup t m x false, ty, pos, af, g⟩ W (kO beq a k z) W := by
  obtain ⟨v, y, rfl, j, A⟩ := p
  have n := D1 (d := d) (ty := ty) (pos := pos) (af := af) (g := g) K r u hm s (j.at (μ := hp W) (fun b o h => q b o (List.mem_append_left _ h)))
  simpa [kO] using n
variable {κ2 β : Type} {kenc2 : κ2 → Value} {vf : β → Value} {beq2 : κ2 → κ2 → Bool} {kt2 : TypeId}
theorem fl.xf {j : Value} {d : List (κ × Value)} {l : List (κ × List (κ2 × β))} {R : List (Nat × Obj)} (hk : ∀ {x y : κ}, beq x y = true → x = y) (h : fl kenc (ek kenc2 vf) j d l R) (k : κ) {μ : bW} (g : ∀ b o, (b, o) ∈ R → μ b = some o) :
    pH kenc2 vf μ (kO beq d k (.map none)) ((dE beq l k).getD []) := by
  cases a : dE beq l k with
  | none => rw [kO, h.Gb a]; exact .inl ⟨rfl, rfl⟩
  | some x =>
    obtain ⟨v, A, R1, B, g1, rfl, g3, _⟩ := h.found hk a
    rw [kO, g1]
    exact g3.at (fun b o i => g b o (by simp [i]))
theorem fl.isNil {d : Value} {b : List (κ × Value)} {l : List (κ × List (κ2 × β))} {R : List (Nat × Obj)} (hk : ∀ {x y : κ}, beq x y = true → x = y) (h : fl kenc (ek kenc2 vf) d b l R) (k : κ) :
    ∃ r, kO beq b k (.map none) = .map r ∧ r.isNone = (dE beq l k).isNone := by
  cases a : dE beq l k with
  | none => rw [kO, h.Gb a]; exact ⟨none, rfl, rfl⟩
  | some x =>
    obtain ⟨v, A, R1, B, g1, rfl, g3, _⟩ := h.found hk a
    obtain ⟨m, es, clock, rfl, _⟩ := g3
    rw [kO, g1]
    exact ⟨_, rfl, rfl⟩
def AE {κ κ2 β : Type} (beq : κ → κ → Bool) (beq2 : κ2 → κ2 → Bool) (l : List (κ × List (κ2 × β))) (k : κ) (a : κ2) (x : β) : Option (List (κ × List (κ2 × β))) := (dE beq l k).map fun b => gG beq l k (gG beq2 b a x)
def Az {κ γ : Type} (beq : κ → κ → Bool) (l : List (κ × γ)) (k : κ) (x : γ) : Option (List (κ × γ)) := if (dE beq l k).isNone then some (gG beq l k x) else none
theorem HQ {q : Value → World → Prop} (X : List (Nat × Obj)) {Y R : List (Nat × Obj)} {t e : TypeId} {m x y : Operand} {z : Value} {p : List (κ × Value)} {l s : List (κ × List (κ2 × β))} {k : κ} {r : κ2} {v : β} (hk : ∀ {x y : κ}, beq x y = true → x = y) (K : ja P kt2 kenc2 beq2) (I : P.underlying t = some (.map kt2 e)) (i : ST dd F w W μ (X ++ (R ++ Y))) (h : fl kenc (ek kenc2 vf) z p l R) (hm : aS E m = kO beq p k (.map none)) (J : aS E x = kenc2 r) (L : aS E y = vf v) (b : AE beq beq2 l k r v = some s) (G : ∀ W' R', ST dd F w W' μ (X ++ (R' ++ Y)) → fl kenc (ek kenc2 vf) z p s R' → q undef W') : fT P E ⟨d, .mapUpdate t m x y, ty, pos, af, g⟩ W q := by
  unfold AE at b
  cases j : dE beq l k with
  | none => rw [j] at b; cases b
  | some M =>
    rw [j] at b
    cases b
    obtain ⟨u, A, R1, B, g1, rfl, g3, g4⟩ := h.found hk j
    have n : aS E m = u := by rw [hm, kO, g1]; rfl
    have a : ST dd F w W μ ((X ++ A) ++ (R1 ++ (B ++ Y))) := by simpa using i
    refine we (X ++ A) K I a g3 n J L (fun W' R' h1 D => G W' (A ++ (R' ++ B)) ?_ (g4 _ _ D))
    simpa using h1
theorem Hk {D : Value → World → Prop} (X : List (Nat × Obj)) {Y R R2 : List (Nat × Obj)} {t e : TypeId} {m x y : Operand} {A : Value} {v : List (κ × Value)} {l J : List (κ × γ)} {k : κ} {u : Value} {z : γ} (K : ja P kt kenc beq) (ht : P.underlying t = some (.map kt e)) (s : ST dd F w W μ (X ++ (R ++ (R2 ++ Y)))) (h : fl kenc Q A v l R) (hm : aS E m = A) (hx : aS E x = kenc k) (hy : aS E y = u) (hq : Q u z R2) (b : Az beq l k z = some J) (U : ∀ W' R', ST dd F w W' μ (X ++ (R' ++ Y)) → fl kenc Q A (gG beq v k u) J R' → D undef W') : fT P E ⟨d, .mapUpdate t m x y, ty, pos, af, g⟩ W D := by
  unfold Az at b
  cases n : dE beq l k with
  | some l2 => rw [n] at b; cases b
  | none =>
    rw [n] at b
    simp only [Option.isNone_none, if_true, Option.some.injEq] at b
    subst b
    have Z := h.Gb n
    obtain ⟨M, r, rfl, O, T⟩ := h
    have j : ST dd F w W μ (X ++ (M ++ (r ++ (R2 ++ Y)))) := by simpa using s
    refine we X K ht j O hm hx hy (fun W' R' g1 g2 => U W' (R' ++ (r ++ R2)) (by simpa using g1) ⟨R', r ++ R2, rfl, g2, ?_⟩)
    have G : ∀ {L : Type} (q : List (κ × L)) (y : L), dE beq q k = none → gG beq q k y = q ++ [(k, y)] := fun q y a => by
      rw [rB] at a
      rw [gG]
      cases I : q.findIdx? (fun p => beq k p.1) with
      | none => rfl
      | some i =>
        obtain ⟨p, hp, _⟩ := lE I
        rw [I] at a
        simp [hp] at a
    rw [G v u Z, G l z n]
    exact T.push k hq
end
end Go.Proofs.YtmlncblocfcmiaaGreat
namespace Go.Proofs.YtmlncblocfcmiaaGreat
open Go.RowKit
variable {dd : Bool}
section
variable {κ γ : Type} {Q : Value → γ → List (Nat × Obj) → Prop} {beq : κ → κ → Bool} {kenc : κ → Value}
theorem kA {a : Type} {l : List (κ × a)} {k : κ} {i : Nat} (h : l.findIdx? (fun p => beq k p.1) = some i) (x : a) : gG beq l k x = l.set i (k, x) := by rw [gG, h]
theorem oB {a : Type} {l : List (κ × a)} {k : κ} (h : l.findIdx? (fun p => beq k p.1) = none) (x : a) : gG beq l k x = l ++ [(k, x)] := by rw [gG, h]
theorem yN {a : Type} {l : List (κ × a)} {k : κ} (h : l.findIdx? (fun p => beq k p.1) = none) : dE beq l k = none := by rw [rB, h]; rfl
theorem xb {a : Type} {l : List (κ × a)} {k : κ} {i : Nat} {p : κ × a} (h : l.findIdx? (fun p => beq k p.1) = some i) (hp : l[i]? = some p) : dE beq l k = some p.2 := by rw [rB, h]; simp [hp]
def Gf (beq : κ → κ → Bool) (kenc : κ → Value) (Q : Value → γ → List (Nat × Obj) → Prop) (d : Value) (b : List (κ × Value)) (l : List (κ × γ)) (k : κ) (R : List (Nat × Obj)) : Prop :=
  ∃ a A B, R = a ++ (A ++ B) ∧ ek kenc (fun x => x) d b a ∧ ∀ v x R1, Q v x R1 → qa Q (gG beq b k v) (gG beq l k x) (A ++ (R1 ++ B))
theorem fl.open (hk : ∀ {x y : κ}, beq x y = true → x = y) {s z : Value} {x0 : γ} (m : Q z x0 []) {n : List (κ × Value)} {l : List (κ × γ)} {R : List (Nat × Obj)} (h : fl kenc Q s n l R) (k : κ) :
    ∃ R' R1, R.Perm (R' ++ R1) ∧ Q (kO beq n k z) ((dE beq l k).getD x0) R1 ∧ Gf beq kenc Q s n l k R' := by
  obtain ⟨d, q, rfl, r, g⟩ := h
  have b := g.find (beq := beq) k
  cases a : l.findIdx? (fun p => beq k p.1) with
  | none =>
    rw [a] at b
    refine ⟨d ++ q, [], by simp, ?_, d, q, [], by simp, r, fun v x R1 j => ?_⟩
    · rw [kO, yN a, yN b]; exact m
    · rw [oB a, oB b]; simpa using g.push k j
  | some i =>
    rw [a] at b
    obtain ⟨p, hp, t⟩ := lE a
    have u := hk t
    obtain ⟨v, A, R1, B, g1, rfl, g3, g4⟩ := g.get i p.1 p.2 hp
    refine ⟨d ++ (A ++ B), R1, ?_, ?_, d, A, B, rfl, r, fun v2 x2 R2 j => ?_⟩
    · rw [List.append_assoc, List.append_assoc]
      refine List.Perm.append_left _ (List.Perm.append_left _ List.perm_append_comm)
    · rw [kO, xb a hp, xb b g1]; exact g3
    · rw [kA a, kA b]; exact g4 k v2 x2 R2 j
variable {P : Program} {W : World} {kt : TypeId} {E : Nat → Value} {d : Option Nat} {ty : TypeId} {pos : String} {af : Array Edge} {g : Option (Nat × Bool)} {F : Nat → Prop} {w : World} {μ : bW} {L : List (Nat × Obj)}
theorem LH {j : Value → World → Prop} (X : List (Nat × Obj)) {Y R R1 : List (Nat × Obj)} {t e : TypeId} {m x y : Operand} {i : Value} {n : List (κ × Value)} {l : List (κ × γ)} {k : κ} {u : Value} {z : γ} (K : ja P kt kenc beq) (D : P.underlying t = some (.map kt e)) (b : ST dd F w W μ (X ++ (R ++ (R1 ++ Y)))) (h : Gf beq kenc Q i n l k R) (hm : aS E m = i) (G : aS E x = kenc k) (I : aS E y = u) (v : Q u z R1) (s : ∀ W' R', ST dd F w W' μ (X ++ (R' ++ Y)) → fl kenc Q i (gG beq n k u) (gG beq l k z) R' → j undef W') : fT P E ⟨d, .mapUpdate t m x y, ty, pos, af, g⟩ W j := by
  obtain ⟨p, A, B, rfl, q, r⟩ := h
  have a : ST dd F w W μ (X ++ (p ++ (A ++ (B ++ (R1 ++ Y))))) := by simpa using b
  refine we X K D a q hm G I (fun W' R' g1 g2 => s W' (R' ++ (A ++ (R1 ++ B))) ?_ ⟨R', A ++ (R1 ++ B), rfl, g2, r u z R1 v⟩)
  refine g1.perm ?_
  simp only [List.append_assoc]
  refine List.Perm.append_left _ (List.Perm.append_left _ (List.Perm.append_left _ ?_))
  rw [← List.append_assoc, ← List.append_assoc]
  exact List.Perm.append_right _ List.perm_append_comm
def DL (beq : κ → κ → Bool) (kenc : κ → Value) (Q : Value → γ → List (Nat × Obj) → Prop) (b : Value) (l : List (κ × γ)) (k : κ) (d : Nat) (R : List (Nat × Obj)) : Prop :=
  ∃ m es clock a A B i e, b = .map (some m) ∧ R = (m, .map es clock) :: (A ++ B) ∧ ob kenc (fun x => x) a es clock ∧ es[i]? = some e ∧ e.born = d ∧ a.findIdx? (fun p => beq k p.1) = some i ∧
    ∀ v x R1, Q v x R1 → qa Q (gG beq a k v) (gG beq l k x) (A ++ (R1 ++ B))
theorem CT {h : Type} (hk : ∀ x : κ, beq x x = true) (g : List (κ × h)) (k : κ) (a b : h) : gG beq (gG beq g k a) k b = gG beq g k b := by
  cases d : g.findIdx? (fun p => beq k p.1) with
  | none =>
    have h1 : (g ++ [(k, a)]).findIdx? (fun p => beq k p.1) = some g.length := by
      rw [List.findIdx?_append, d]
      simp [List.findIdx?_cons, hk]
    rw [oB d, oB d, kA h1]
    simp
  | some i =>
    obtain ⟨p, hp, q⟩ := lE d
    have h1 : (g.set i (k, a)).findIdx? (fun p => beq k p.1) = some i := by
      rw [List.findIdx?_eq_some_iff_getElem] at d ⊢
      obtain ⟨h1, n, l⟩ := d
      refine ⟨by simpa using h1, by simp [hk], fun j m => ?_⟩
      rw [List.getElem_set_ne (by omega)]
      exact l j m
    rw [kA d, kA d, kA h1]
    simp
end
end Go.Proofs.YtmlncblocfcmiaaGreat
namespace Go.Proofs.YtmlncblocfcmiaaGreat
open Go.RowKit
variable {dd : Bool}
section
variable {κ γ : Type} {Q : Value → γ → List (Nat × Obj) → Prop} {beq : κ → κ → Bool} {kenc : κ → Value}
variable {P : Program} {W : World} {kt : TypeId} {E : Nat → Value} {d : Option Nat} {ty : TypeId} {pos : String} {af : Array Edge} {g : Option (Nat × Bool)} {F : Nat → Prop} {w : World} {μ : bW} {L : List (Nat × Obj)}
theorem ym {es : Array MapEntry} {i : Nat} {f b : MapEntry → MapEntry} (h : ∀ e, es[i]? = some e → f e = b e) : es.modify i f = es.modify i b := by
  apply Array.ext_getElem?
  intro j
  rw [Array.getElem?_modify, Array.getElem?_modify]
  split
  · rename_i a
    subst a
    cases he : es[i]? with
    | none => rfl
    | some e => simp [h e he]
  · rfl
theorem ob.val {b : List (κ × Value)} {es : Array MapEntry} {clock : Nat} (h : ob kenc (fun x => x) b es clock) {i : Nat} {e : MapEntry} (he : es[i]? = some e) : ∃ p, b[i]? = some p ∧ e.key = kenc p.1 ∧ e.val = p.2 := by
  have a := congrArg (fun q => q[i]?) h.zw
  simp only [List.getElem?_map, Array.getElem?_toList, he, Option.map_some] at a
  cases hp : b[i]? with
  | none => rw [hp] at a; cases a
  | some p =>
    rw [hp] at a
    simp only [Option.map_some, Option.some.injEq, Prod.mk.injEq] at a
    exact ⟨p, rfl, a.1, a.2⟩
theorem GX {Kk : Value → World → Prop} (X : List (Nat × Obj)) {Y R : List (Nat × Obj)} {t e : TypeId} {m x : Operand} {mv z : Value} {x0 : γ} {lv : List (κ × Value)} {l : List (κ × γ)} {k : κ} (hk : ∀ {x y : κ}, beq x y = true ↔ x = y) (K : ja P kt kenc beq) (ht : P.underlying t = some (.map kt e)) (hz : ∀ w, (zeroValue e).run P w = .ok z w) (ad : Q z x0 []) (T : ST dd F w W μ (X ++ (R ++ Y))) (h : fl kenc Q mv lv l R) (hm : aS E m = mv) (hx : aS E x = kenc k) (hK : ∀ W' v st R' R1, ST dd F w W' μ (X ++ (R' ++ (R1 ++ Y))) → Q v ((dE beq l k).getD x0) R1 → DL beq kenc Q mv l k st R' → Kk (.tuple #[v, .int .i64 (st : Nat)]) W') : fT P E ⟨d, .mapEntry t m x, ty, pos, af, g⟩ W Kk := by
  obtain ⟨Rm, Rv, rfl, ⟨r, es, clock, rfl, rfl, s⟩, O⟩ := h
  have hb : W.heap[r]? = some (.map es clock) := (T.box r (.map es clock) (by simp)).1
  have h5 : ((getObj r : Sem Obj)).run P W = .ok (.map es clock) W := by simp [getObj, Sem.run, hb]
  have L := K.find k _ _ s.keys W
  rw [s.get k] at L
  have G := O.find (beq := beq) k
  have D : ∀ W' v, (Instr.mapEntry t (.map (some r)) (kenc k)).run P W = .ok v W' → (execOp (aS E) ⟨d, .mapEntry t m x, ty, pos, af, g⟩).run P W = .ok (.value v) W' := by
    intro W' v hr
    show (do pure (.value (← Instr.mapEntry t (aS E m) (aS E x))) : Sem Next).run P W = _
    rw [hm, hx]
    simp [hr]
  have u : ST dd F w W μ (X ++ (r, .map es clock) :: (Rv ++ Y)) := by simpa using T
  cases b : lv.findIdx? (fun p => beq k p.1) with
  | none =>
    rw [b] at L G
    have a := s.put (beq := beq) k z
    rw [b] at a
    refine .inl ⟨_, ChangeMaps.setBlock W r (.map (es.push { key := kenc k, val := z, born := clock }) (clock + 1)), D _ (.tuple #[z, .int .i64 (clock : Nat)]) ?_, hK _ z clock ((r, .map (es.push { key := kenc k, val := z, born := clock }) (clock + 1)) :: (Rv ++ [])) [] ?_ ?_ ?_⟩
    · simp [Instr.mapEntry, run_underlying ht, h5, K.check, L, rX hb, hz _, goInt]
    · have := u.setBlock (.map (es.push { key := kenc k, val := z, born := clock }) (clock + 1))
      simpa using this
    · rw [yN G.symm]; exact ad
    · refine ⟨r, _, _, lv ++ [(k, z)], Rv, [], es.size, { key := kenc k, val := z, born := clock }, rfl, rfl, a, by simp, rfl, ?_, fun v x R1 hq => ?_⟩
      · rw [List.findIdx?_append, b]
        have aa := s.length
        simp [List.findIdx?_cons, hk, aa]
      · rw [← oB b, CT (fun x => hk.2 rfl), oB b, oB G.symm]
        simpa using O.push k hq
  | some i =>
    rw [b] at L G
    obtain ⟨p, hp, ab⟩ := lE b
    obtain ⟨q, a8, U⟩ := lE G.symm
    have ag := hk.1 U
    obtain ⟨v, A, R1, B, g1, rfl, g3, g4⟩ := O.get i q.1 q.2 a8
    have a7 : p.2 = v := by rw [g1] at hp; cases hp; rfl
    have aa := s.length
    have ae : i < lv.length := (List.getElem?_eq_some_iff.1 hp).1
    obtain ⟨M, n⟩ : ∃ M, es[i]? = some M := ⟨es[i], Array.getElem?_eq_getElem (by omega)⟩
    obtain ⟨p', a6, I, J⟩ := s.val n
    rw [hp] at a6
    cases a6
    simp only [Option.bind_some, hp, Option.map_some] at L
    have a := s.put (beq := beq) k v
    rw [b] at a
    have Z : ((es[i]?).map (·.key)).getD (kenc k) = kenc k := by
      rw [n]
      simp only [Option.map_some, Option.getD_some, I]
      exact K.eq k p.1 ab
    have a1 : es.modify i (fun e => { e with key := kenc k }) = es.modify i (fun e => { e with key := kenc k, val := v }) := ym fun e he => by
      rw [n] at he; cases he
      rw [← a7, ← J]
    refine .inl ⟨_, ChangeMaps.setBlock W r (.map (es.modify i fun e => { e with key := kenc k, val := v }) clock), D _ (.tuple #[v, .int .i64 (M.born : Nat)]) ?_, hK _ v M.born ((r, .map (es.modify i fun e => { e with key := kenc k, val := v }) clock) :: (A ++ B)) R1 ?_ ?_ ?_⟩
    · simp only [Instr.mapEntry, Sem.run_bind, run_underlying ht, h5, K.check, L, Result.andThen_ok, Z, Instr.keyThatStays, K.bits, if_true, Sem.run_pure]
      rw [rX hb, a1]
      simp [n, goInt, a7]
    · have := u.setBlock (.map (es.modify i fun e => { e with key := kenc k, val := v }) clock)
      refine this.perm ?_
      simp only [List.append_assoc, List.cons_append]
      refine List.Perm.append_left _ (List.Perm.cons _ (List.Perm.append_left _ ?_))
      rw [← List.append_assoc, ← List.append_assoc]
      exact List.Perm.append_right _ List.perm_append_comm
    · rw [xb G.symm a8]; exact g3
    · refine ⟨r, _, _, lv.set i (k, v), A, B, i, { M with key := kenc k, val := v }, rfl, rfl, a, ?_, rfl, ?_, fun v2 x2 R2 hq => ?_⟩
      · rw [Array.getElem?_modify, if_pos rfl, n]; rfl
      · rw [List.findIdx?_eq_some_iff_getElem] at b ⊢
        obtain ⟨h1, s, O⟩ := b
        refine ⟨by simpa using h1, by simp [hk], fun j hj => ?_⟩
        rw [List.getElem_set_ne (by omega)]
        exact O j hj
      · rw [← kA b, CT (fun x => hk.2 rfl), kA b, kA G.symm]
        exact g4 k v2 x2 R2 hq
theorem Hi {es : Array MapEntry} (h : es.toList.Pairwise (fun a b => a.born < b.born)) {i : Nat} {e : MapEntry} (he : es[i]? = some e) : es.findIdx? (fun a => (a.born : Int) == (e.born : Int)) = some i := by
  rw [Array.findIdx?_eq_some_iff_getElem]
  obtain ⟨g, d⟩ := Array.getElem?_eq_some_iff.1 he
  refine ⟨g, by rw [d]; simp, fun j k => ?_⟩
  have := List.pairwise_iff_getElem.1 h j i (by simpa using Nat.lt_trans k g) (by simpa using g) k
  simp only [Array.getElem_toList] at this
  rw [d] at this
  simp
  omega
theorem EB {Kk : Value → World → Prop} (X : List (Nat × Obj)) {Y R R1 : List (Nat × Obj)} {t e : TypeId} {m s y : Operand} {Z u : Value} {z : γ} {l : List (κ × γ)} {k : κ} {st : Nat} (hk : ∀ {x y : κ}, beq x y = true ↔ x = y) (K : ja P kt kenc beq) (r : ST dd F w W μ (X ++ (R ++ (R1 ++ Y)))) (h : DL beq kenc Q Z l k st R) (hm : aS E m = Z) (hs : aS E s = .int .i64 (st : Nat)) (hy : aS E y = u) (hq : Q u z R1) (hK : ∀ W' U R', ST dd F w W' μ (X ++ (R' ++ Y)) → fl kenc Q Z U (gG beq l k z) R' → Kk undef W') : fT P E ⟨d, .entryStore t m s y, ty, pos, af, g⟩ W Kk := by
  obtain ⟨b, es, clock, lv, A, B, i, en, rfl, rfl, L, n, j, O, h3⟩ := h
  have hb : W.heap[b]? = some (.map es clock) := (r.box b (.map es clock) (by simp)).1
  have h5 : ((getObj b : Sem Obj)).run P W = .ok (.map es clock) W := by simp [getObj, Sem.run, hb]
  obtain ⟨p, hp, M⟩ := lE O
  obtain ⟨p', J, q, T⟩ := L.val n
  rw [hp] at J
  cases J
  have a := L.put (beq := beq) k u
  rw [O] at a
  have I : es.modify i (fun e => { e with val := u }) = es.modify i (fun e => { e with key := kenc k, val := u }) := ym fun e he => by
    rw [n] at he; cases he
    have D : en.key = kenc k := by rw [q]; exact K.eq k p.1 M
    rw [← D]
  have G := Hi L.born n
  rw [j] at G
  have v : ST dd F w W μ (X ++ (b, .map es clock) :: (A ++ (B ++ (R1 ++ Y)))) := by simpa using r
  refine .inr (.inl ⟨ChangeMaps.setBlock W b (.map (es.modify i fun e => { e with key := kenc k, val := u }) clock), ?_, hK _ (gG beq lv k u) ((b, .map (es.modify i fun e => { e with key := kenc k, val := u }) clock) :: (A ++ (R1 ++ B))) ?_ ⟨[(b, .map (es.modify i fun e => { e with key := kenc k, val := u }) clock)], A ++ (R1 ++ B), rfl, ⟨b, _, _, rfl, rfl, ?_⟩, h3 u z R1 hq⟩⟩)
  · show (do Instr.entryStore t (aS E m) (aS E s) (aS E y); pure .skip : Sem Next).run P W = _
    rw [hm, hs, hy]
    simp only [Instr.entryStore, Sem.run_bind, h5, Result.andThen_ok, asInt, asIntOf, Sem.run_pure, G]
    rw [rX hb, I]
    rfl
  · have := v.setBlock (.map (es.modify i fun e => { e with key := kenc k, val := u }) clock)
    refine this.perm ?_
    simp only [List.append_assoc, List.cons_append]
    refine List.Perm.append_left _ (List.Perm.cons _ (List.Perm.append_left _ ?_))
    rw [← List.append_assoc, ← List.append_assoc]
    exact List.Perm.append_right _ List.perm_append_comm
  · rw [kA O]; exact a
end
end Go.Proofs.YtmlncblocfcmiaaGreat
namespace Go.Proofs.YtmlncblocfcmiaaGreat
open Go.RowKit
variable {dd : Bool}
section
variable {κ γ : Type} {Q : Value → γ → List (Nat × Obj) → Prop} {beq : κ → κ → Bool} {kenc : κ → Value}
def eu (kenc : κ → Value) (Q : Value → γ → List (Nat × Obj) → Prop) (v : Value) (l : List (κ × γ)) (R : List (Nat × Obj)) : Prop := ∃ a, fl kenc Q v a l R
def np (kenc : κ → Value) (Q : Value → γ → List (Nat × Obj) → Prop) (μ : bW) (v : Value) (l : List (κ × γ)) : Prop := ∃ a R, fl kenc Q v a l R ∧ ∀ b o, (b, o) ∈ R → μ b = some o
theorem eu.at {v : Value} {l : List (κ × γ)} {R : List (Nat × Obj)} {μ : bW} (h : eu kenc Q v l R) (a : ∀ b o, (b, o) ∈ R → μ b = some o) : np kenc Q μ v l := let ⟨d, h⟩ := h; ⟨d, R, h, a⟩
theorem np.mono {v : Value} {l : List (κ × γ)} {μ μ' : bW} (h : np kenc Q μ v l) (g : bO μ μ') : np kenc Q μ' v l := let ⟨i, R, h, a⟩ := h; ⟨i, R, h, fun b o d => g _ _ (a b o d)⟩
theorem fl.form {v : Value} {a : List (κ × Value)} {l : List (κ × γ)} {R : List (Nat × Obj)} (h : fl kenc Q v a l R) : ∃ m, v = .map (some m) := let ⟨_, _, _, h, _⟩ := h; h.form
theorem fl.e {v : Value} {a : List (κ × Value)} {l : List (κ × γ)} {R : List (Nat × Obj)} (h : fl kenc Q v a l R) : eu kenc Q v l R := ⟨a, h⟩
theorem eu.form {v : Value} {l : List (κ × γ)} {R : List (Nat × Obj)} (h : eu kenc Q v l R) : ∃ m, v = .map (some m) := let ⟨_, h⟩ := h; h.form
theorem eu.new {v : Value} {R : List (Nat × Obj)} (h : ek (β := Value) kenc (fun x => x) v [] R) : eu kenc Q v [] R := ⟨[], R, [], (List.append_nil R).symm, h, rfl⟩
theorem fl.rowAt {α : Type} {e : TypeId} {enc : α → List Value} {n : Nat} {i : Value} {d : List (κ × Value)} {l : List (κ × List α)} {R : List (Nat × Obj)} (hk : ∀ {x y : κ}, beq x y = true → x = y) (h : fl kenc (bG e enc n) i d l R) (k : κ) :
    ∃ R1, bG e enc n (kO beq d k (.slice none 0 0)) ((dE beq l k).getD []) R1 ∧ ∀ b o, (b, o) ∈ R1 → (b, o) ∈ R := by
  cases a : dE beq l k with
  | none => refine ⟨[], ?_, fun b o h => by cases h⟩; rw [kO, h.Gb a]; exact .inl ⟨rfl, rfl, rfl⟩
  | some x =>
    obtain ⟨v, A, R1, B, g1, rfl, g3, _⟩ := h.found hk a
    refine ⟨R1, ?_, fun b o g => by simp [g]⟩
    rw [kO, g1]; exact g3
theorem bG.yP {α : Type} {e : TypeId} {enc : α → List Value} {k : Nat} {v : Value} {l : List α} {R : List (Nat × Obj)} (h : bG e enc k v l R) (hk : ∀ x, (enc x).length = k) : Sl (Pl enc) k (uj R) v l := by
  refine h.sl hk (fun b o a => ?_)
  rcases h with ⟨rfl, rfl, rfl⟩ | ⟨g, cap, cur, rfl, rfl, _⟩
  · cases a
  · simp at a; obtain ⟨rfl, rfl⟩ := a; simp [uj]
end
theorem gf.hp (W : World) : gf (hp W) [] W := ⟨fun _ _ h => h, fun _ _ h => by cases h⟩
section
variable {P : Program} {W : World} {E : Nat → Value} {d : Option Nat} {ty : TypeId} {pos : String} {af : Array Edge} {g : Option (Nat × Bool)} {F : Nat → Prop} {w : World} {μ : bW} {L : List (Nat × Obj)}
theorem A0 {t k e : TypeId} (dd : Nat) (b : P.underlying t = some (.map k e)) (a : Option Nat) (W : World) : (Op.equalIn (dd + 1) t (.map a) (.map none)).run P W = .ok a.isNone W := by
  cases a <;> simp [Op.equalIn, run_underlying b]
theorem GL {a n k e : TypeId} {x y : Operand} {r : Option Nat} {b : Bool} (j : P.underlying a = some (.map k e)) (l : aS E x = .map r) (m : aS E y = .map none) (i : r.isNone = b) :
    et P E ⟨d, .binOp .eql a x y n, ty, pos, af, g⟩ W (.bool b) W := by
  subst i
  show (do let r ← (do eqGuard .eql a x y (aS E x) (aS E y); binOp .eql a (aS E x) (aS E y)); pure (.value r) : Sem Next).run P W = _
  rw [l, m]
  have h := A0 9999 j r W
  simp [eqGuard, binOp, Op.equal, show Op.maxDepth = 9999 + 1 from rfl, h]
theorem E7 {κ κ2 β : Type} {kenc : κ → Value} {kenc2 : κ2 → Value} {vf : β → Value} {beq : κ → κ → Bool} {b q kt e : TypeId} {x y : Operand} {p : Value} {a : List (κ × Value)} {l : List (κ × List (κ2 × β))} {R : List (Nat × Obj)} {k : κ} (hk : ∀ {x y : κ}, beq x y = true → x = y) (j : P.underlying b = some (.map kt e)) (h : fl kenc (ek kenc2 vf) p a l R) (m : aS E x = kO beq a k (.map none)) (n : aS E y = .map none) :
    et P E ⟨d, .binOp .eql b x y q, ty, pos, af, g⟩ W (.bool (dE beq l k).isNone) W := by
  obtain ⟨r, h1, i⟩ := h.isNil hk k
  exact GL j (m.trans h1) n i
theorem xy {κ γ : Type} {b : Value → World → Prop} {t : TypeId} (kenc : κ → Value) (Q : Value → γ → List (Nat × Obj) → Prop) (a : ST dd F w W μ L) (i : ∀ W' v R, ST dd F w W' μ (R ++ L) → eu kenc Q v [] R → b v W') : fT P E ⟨d, .makeMap t none, ty, pos, af, g⟩ W b :=
  CO kenc (fun x : Value => x) a (fun W' v R h1 h => i W' v R h1 (eu.new h))
end
def jS {α : Type} (e : TypeId) (enc : α → List Value) (k : Nat) (v : Value) (l : List α) (R : List (Nat × Obj)) : Prop :=
  (v = .slice none 0 0 ∧ l = [] ∧ R = []) ∨
  ∃ g off cap cur, v = .slice (some ⟨g, off, none⟩) l.length cap ∧ R = [(g, .cells cur e (0, 0))] ∧ l.length ≤ cap ∧ cap ≤ maxLen ∧ off + cap * k ≤ cur.size ∧ (cur.toList.drop off).take (l.length * k) = (l.map enc).flatten
section
variable {α : Type} {e : TypeId} {enc : α → List Value} {k : Nat} {v : Value} {l : List α} {R : List (Nat × Obj)}
theorem jS.nil (e : TypeId) (enc : α → List Value) (k : Nat) : jS e enc k (.slice none 0 0) [] [] := .inl ⟨rfl, rfl, rfl⟩
theorem bG.MK (h : bG e enc k v l R) : jS e enc k v l R := by
  rcases h with h | ⟨g, cap, cur, h1, a, b, d, j, i⟩
  · exact .inl h
  · exact .inr ⟨g, 0, cap, cur, h1, a, b, d, by omega, by simpa using i⟩
theorem jS.len (h : jS e enc k v l R) : l.length ≤ 9223372036854775807 := by
  rcases h with ⟨rfl, rfl, rfl⟩ | ⟨g, off, cap, cur, rfl, rfl, h1, a, _⟩
  · simp
  · unfold maxLen at a; omega
theorem jS.form (h : jS e enc k v l R) : ∃ A c, v = .slice A l.length c := by
  rcases h with ⟨rfl, rfl, rfl⟩ | ⟨g, off, cap, cur, rfl, rfl, _⟩
  · exact ⟨_, _, rfl⟩
  · exact ⟨_, _, rfl⟩
theorem jS.yP (h : jS e enc k v l R) (hk : ∀ x, (enc x).length = k) : Sl (Pl enc) k (uj R) v l := by
  rcases h with ⟨rfl, rfl, rfl⟩ | ⟨g, off, cap, cur, rfl, rfl, h1, b, p, d⟩
  · exact Sl.nil _ _ _
  · refine ⟨_, cap, rfl, h1, b, fun _ => ⟨g, off, cur, e, (0, 0), rfl, by simp [uj], fun i x m => ⟨enc x, hk x, rfl, fun j y n => ?_⟩⟩⟩
    have := qb hk l i x m j y n
    rw [← d] at this
    have a : i * k + j < l.length * k := by
      have := (List.getElem?_eq_some_iff.1 this).1
      simp at this; omega
    rw [List.getElem?_take_of_lt a, List.getElem?_drop] at this
    simpa [Nat.add_assoc] using this
variable {P : Program} {W : World} {E : Nat → Value} {d : Option Nat} {ty : TypeId} {pos : String} {af : Array Edge} {g : Option (Nat × Bool)} {F : Nat → Prop} {w : World} {μ : bW} {L : List (Nat × Obj)}
theorem Ij {x : Operand} {t a : TypeId} (b : P.underlying t = some (.slice a)) (i : aS E x = v) (h : jS e enc k v l R) : et P E ⟨d, .call ⟨.builtin .len, #[x], #[t]⟩, ty, pos, af, g⟩ W (.int .i64 l.length) W := by
  obtain ⟨A, c, rfl⟩ := h.form
  exact uF b i
theorem GP {t p : TypeId} {x m : Operand} {J : IntKind} {i : Int} (y : P.underlying t = some (.slice p)) (he : ∀ w, (sizeOf p).run P w = .ok k w) (z : aS E x = v) (r : aS E m = .int J i) (hk : ∀ x, (enc x).length = k) (h : jS e enc k v l R) (A : 0 ≤ i) (s : i ≤ l.length) :
    ∃ u, jS e enc k u (l.drop i.toNat) R ∧ ∀ W, et P E ⟨d, .slice t x (some m) none none, ty, pos, af, g⟩ W u W := by
  rcases h with ⟨rfl, rfl, rfl⟩ | ⟨j, off, cap, cur, rfl, rfl, h1, L, M, D⟩
  · have : i = 0 := by simp at s; omega
    subst this
    refine ⟨.slice none 0 0, by simpa using jS.nil e enc k, fun W => ?_⟩
    show (do pure (.value (← Instr.sliceAt t (aS E x) (some (aS E m)) none none)) : Sem Next).run P W = _
    rw [z, r]
    simp [Instr.sliceAt, Instr.slice, Instr.sliceBounds, Instr.sliceBound, asIntOf, run_underlying y, he W]
  · refine ⟨.slice (some (if cap = i.toNat then ⟨j, off, none⟩ else (Addr.add ⟨j, off, none⟩ (i.toNat * k)))) (l.length - i.toNat) (cap - i.toNat), .inr ?_, fun W => ?_⟩
    · have a : (l.drop i.toNat).length = l.length - i.toNat := by simp
      have b : (l.map enc).flatten.drop (i.toNat * k) = ((l.drop i.toNat).map enc).flatten := by
        have F : l = l.take i.toNat ++ l.drop i.toNat := (List.take_append_drop _ _).symm
        have G : ((l.take i.toNat).map enc).flatten.length = i.toNat * k := by rw [jt hk, List.length_take, Nat.min_eq_left (by omega)]
        conv => lhs; rw [F, List.map_append, List.flatten_append]
        rw [← G, List.drop_left]
      by_cases q : cap = i.toNat
      · rw [if_pos q]
        have n : l.drop i.toNat = [] := List.drop_eq_nil_of_le (by omega)
        refine ⟨j, off, cap - i.toNat, cur, by rw [n]; simp; omega, rfl, by rw [n]; simp, by omega, by have : (cap - i.toNat) * k ≤ cap * k := Nat.mul_le_mul_right _ (by omega); omega, by rw [n]; simp⟩
      · rw [if_neg q]
        refine ⟨j, off + i.toNat * k, cap - i.toNat, cur, by rw [a, Addr.add_lit], rfl, by rw [a]; omega, by omega, ?_, ?_⟩
        · have : i.toNat * k + (cap - i.toNat) * k = cap * k := by rw [← Nat.add_mul]; congr 1; omega
          omega
        · rw [a, ← b, ← D, List.drop_take, List.drop_drop, Nat.sub_mul]
    · show (do pure (.value (← Instr.sliceAt t (aS E x) (some (aS E m)) none none)) : Sem Next).run P W = _
      rw [z, r]
      have I : 0 ≤ i ∧ i ≤ (l.length : Int) := ⟨A, s⟩
      simp [Instr.sliceAt, Instr.slice, Instr.sliceBounds, Instr.sliceBound, asIntOf, run_underlying y, he W, I]
      split <;> rfl
theorem Fj {K : Value → World → Prop} {t : TypeId} {a1 : Nat} {z vs : Value} {m r : List α} (X : List (Nat × Obj)) {Y : List (Nat × Obj)} {x y : Operand} {i : TypeInfo} (a6 : ST dd F w W μ (X ++ (R ++ Y))) (hk : ∀ x, (enc x).length = k) (aj : 0 < k) (h1 : ∀ x, ∀ u ∈ enc x, u.oneCell' = true) (Z : P.underlying t = some (.slice e)) (hi : P.info? e = some i) (hz : i.zero = some z) (aa : z.cells.size = k) (U : i.size = k) (a7 : i.bytes = a1) (hx : aS E x = v) (hy : aS E y = vs) (hR : jS e enc k v l R) (hs : Sl (Pl enc) k (hp W) vs m) (hb : eT a1 l m = some r) (h : ∀ W' v' R', ST dd F w W' μ (X ++ (R' ++ Y)) → jS e enc k v' r R' → K v' W') : fT P E ⟨d, .call ⟨.builtin .append, #[x, y], #[t, t]⟩, ty, pos, af, g⟩ W K := by
  rcases hR with ⟨rfl, rfl, rfl⟩ | ⟨p, off, cap, cur, rfl, rfl, h2, h3, h4, h5⟩
  · exact D2 X a6 hk aj h1 Z hi hz aa U a7 hx hy (bG.nil e enc k) hs hb (fun W' v' R' a b => h W' v' R' a b.MK)
  unfold eT at hb
  split at hb
  case isFalse => cases hb
  rename_i Q
  cases hb
  have O : ∀ (V : Value) (W' : World), (Builtin.append_ #[t, t] ty #[.slice (some ⟨p, off, none⟩) l.length cap, vs]).run P W = .ok V W' → (execOp (aS E) ⟨d, .call ⟨.builtin .append, #[x, y], #[t, t]⟩, ty, pos, af, g⟩).run P W = .ok (.value V) W' := by
    intro V W' hV
    show (do let d ← resolve (aS E) ⟨.builtin .append, #[x, y], #[t, t]⟩ ty; invoke d.target d.args : Sem Next).run P W = _
    simp [resolve, invoke, builtin, hx, hy, hV]
  obtain ⟨A, c, rfl, an, ao, ag⟩ := hs
  have I : ST dd F w W μ (X ++ (p, .cells cur e (0, 0)) :: Y) := by simpa using a6
  have hg : W.heap[p]? = some (.cells cur e (0, 0)) := (I.box p _ (by simp)).1
  have G := jt hk l
  have M : ∀ u ∈ (m.map enc).flatten, u.oneCell' = true := by
    intro u hu
    obtain ⟨ys, al, ak⟩ := List.mem_flatten.1 hu
    obtain ⟨x, _, rfl⟩ := List.mem_map.1 al
    exact h1 x u ak
  have D : Src P i.size t (.slice A m.length c) m.length ((m.map enc).flatten) W := by
    rw [U]
    rcases Nat.eq_zero_or_pos m.length with h0 | h0
    · have hm : m = [] := List.eq_nil_of_length_eq_zero h0
      subst hm
      cases A with
      | none => exact Src.ofNil W Z c
      | some ad => exact Src.ofSlice W Z ad 0 c [] (by simp) (fun j u hu => by simp at hu) (fun u hu => by cases hu)
    · obtain ⟨b, o, cs, T, fr, rfl, h6, h7⟩ := ag h0
      refine Src.ofSlice W Z _ _ c _ (jt hk m) (fun j u hu => ?_) M
      obtain ⟨i, x, q, h8, h9, rfl⟩ := AI hk m j u hu
      obtain ⟨ys, _, ab, ae⟩ := h7 i x h8
      cases ab
      rw [Addr.add_lit, cell_of_row W b (o + (i * k + q)) cs T fr h6, ← Nat.add_assoc]
      exact ae q u h9
  have n := jt hk m
  have L : ((l ++ m).map enc).flatten = (l.map enc).flatten ++ (m.map enc).flatten := by simp
  generalize (m.map enc).flatten = fm at D M n L
  subst U
  have ap : l.length * i.size ≤ cap * i.size := Nat.mul_le_mul_right _ h2
  by_cases s : l.length + m.length ≤ cap
  · have aq : l.length * i.size + m.length * i.size ≤ cap * i.size := by rw [← Nat.add_mul]; exact Nat.mul_le_mul_right _ s
    have a8 := run_storeCells_at (P := P) p (off + l.length * i.size) e fm 0 cur W hg (by rw [n]; omega) M
    have J : (Builtin.append_ #[t, t] ty #[.slice (some ⟨p, off, none⟩) l.length cap, .slice A m.length c]).run P W = .ok (.slice (some ⟨p, off, none⟩) (l.length + m.length) cap) (W.setRow p (cur.toList.take (off + l.length * i.size) ++ fm ++ cur.toList.drop (off + l.length * i.size + fm.length)).toArray) := by
      simp [Builtin.append_, run_underlying Z, sizeOf, typeInfo, hi, D.len, s, D.cells, Addr.add_lit]
      simp only [Nat.add_zero] at a8
      rw [a8]
      simp
    refine .inl ⟨_, _, O _ _ J, h _ _ [(p, _)] (by simpa using I.store _) (.inr ⟨p, off, cap, _, by rw [List.length_append], rfl, by simpa using s, h3, ?_, ?_⟩)⟩
    · simp only [List.size_toArray, List.length_append, List.length_take, List.length_drop, Array.length_toList, n]
      rw [Nat.min_eq_left (by omega)]
      omega
    · have hA : (cur.toList.take (off + l.length * i.size)).length = off + l.length * i.size := by simp; omega
      show ((cur.toList.take (off + l.length * i.size) ++ (fm ++ cur.toList.drop (off + l.length * i.size + fm.length))).drop off).take ((l ++ m).length * i.size) = _
      rw [L, List.drop_append, List.drop_take, hA, show off - (off + l.length * i.size) = 0 by omega, List.drop_zero, show off + l.length * i.size - off = l.length * i.size by omega, h5]
      rw [List.length_append, Nat.add_mul, List.take_append, List.take_append, G, n, List.take_of_length_le (by rw [G]; omega), show l.length * i.size + m.length * i.size - l.length * i.size = m.length * i.size by omega, List.take_of_length_le (by rw [n]; omega)]
      simp
  · have hold : (Builtin.firstCells i.size l.length (.slice (some ⟨p, off, none⟩) l.length cap)).run P W.drew = .ok ((l.map enc).flatten).toArray W.drew := by
      refine run_firstCells_some W.drew i.size l.length ⟨p, off, none⟩ l.length cap _ G (fun j u hu => ?_)
      rw [Addr.add_lit]
      show W.cell? ⟨p, off + j, none⟩ = some u
      rw [cell_of_row W p (off + j) cur e (0, 0) hg]
      rw [← h5] at hu
      have hj : j < l.length * i.size := by have := (List.getElem?_eq_some_iff.1 hu).1; simp at this; omega
      rw [List.getElem?_take_of_lt hj, List.getElem?_drop] at hu
      simpa using hu
    have hlen : (l ++ m).length = l.length + m.length := List.length_append
    have ai := grownCap_ge W (l.length + m.length) cap e
    have ah := grownCap_le_maxLen W (l.length + m.length) cap e Q.2
    have J := run_append_grow_src (P := P) W t t ty e i z Z hi hz (some ⟨p, off, none⟩) l.length cap ((l.map enc).flatten) hold _ m.length _ D (by omega) (by have := Q.2; unfold maxLen at this; omega) (growslice_fits (by omega) (by rw [a7]; exact Q.1))
    have h6 := I.drew.alloc (.cells (((l.map enc).flatten ++ fm).toArray ++ Builtin.zeroCells z.cells (grownCap W (l.length + m.length) cap e - (l.length + m.length))) e (0, 0))
    have h7 := (ST.drop (A := (W.drew.heap.size, _) :: X) h6).perm (L' := X ++ ([(W.heap.size, _)] ++ Y)) (by simpa using (List.perm_middle (a := (W.heap.size, _)) (l₁ := X) (l₂ := Y)).symm)
    refine .inl ⟨_, _, O _ _ J, h _ _ _ h7 (bG.MK (.inr ⟨W.heap.size, grownCap W (l.length + m.length) cap e, _, by rw [hlen], rfl, by rw [hlen]; exact ai, ah, ?_, ?_⟩))⟩
    · rw [Array.size_append, size_zeroCells, aa]
      simp only [List.size_toArray, List.length_append, G, n]
      rw [← Nat.add_mul, ← Nat.add_mul]
      congr 1
      omega
    · rw [Array.toList_append, List.toList_toArray, hlen, L, List.take_append_of_le_length (by simp only [List.length_append, G, n]; rw [Nat.add_mul]; exact Nat.le_refl _), List.take_of_length_le (by simp only [List.length_append, G, n]; rw [Nat.add_mul]; exact Nat.le_refl _)]
end
end Go.Proofs.YtmlncblocfcmiaaGreat
namespace Go.Proofs.YtmlncblocfcmiaaGreat
open Go.RowKit
section
variable {P : Program} {ops : Array Oper} {Q : Exit → Act → World → Prop} {S : Array Bool → World → Prop}
def qO (ops : Array Oper) (l : Array Bool) : Prop := ∀ j o, ops[j]? = some o → l.getD j true = true → ∀ e ∈ o.after, Region.binds .any e = true → l.getD e.on true = true
def Bs (ops : Array Oper) : Nat → List Nat → Bool
  | _, [] => true
  | j, k :: r => (match ops[j]? with | some o => o.after.any (fun e => Region.binds .any e && e.on == k) | none => false) && Bs ops k r
theorem By {l : Array Bool} (d : qO ops l) : ∀ (r : List Nat) (j i : Nat), Bs ops j r = true → (j :: r).getLast? = some i → l.getD j true = true → l.getD i true = true
  | [], j, i, _, h, a => by simp at h; subst h; exact a
  | k :: r, j, i, h, m, a => by
    simp only [Bs, Bool.and_eq_true] at h
    obtain ⟨h1, g⟩ := h
    cases b : ops[j]? with
    | none => rw [b] at h1; cases h1
    | some o =>
      rw [b] at h1
      simp only [Array.any_eq_true] at h1
      obtain ⟨n, p, h1⟩ := h1
      simp only [Bool.and_eq_true, beq_iff_eq] at h1
      have := d j o b a o.after[n] (Array.getElem_mem p) h1.1
      rw [h1.2] at this
      exact By d r k i g (by simpa [List.getLast?_cons_cons] using m) this
def Al (ops : Array Oper) (i : Nat) (l : Array Bool) : Prop := qO ops l ∧ l.getD i true = false
theorem Al.xJ {l : Array Bool} {i : Nat} (h : Al ops i l) (j : Nat) (r : List Nat) (a : Bs ops j r = true) (d : (j :: r).getLast? = some i) : l.getD j true = false := by
  cases b : l.getD j true with
  | false => rfl
  | true => have := By h.1 r j i a d b; rw [h.2] at this; cases this
theorem qO.start (n : Nat) (h : n = ops.size) : qO ops (Array.replicate n false) := by
  subst h
  intro j o d b
  have a : j < ops.size := (Array.getElem?_eq_some_iff.1 d).1
  simp [a] at b
theorem qO.set {l : Array Bool} {i : Nat} (h : qO ops l) (r : i ∈ Region.ready .any ops l) : qO ops (l.setIfInBounds i true) := by
  intro j o q p e he n
  have up : ∀ {k : Nat}, l.getD k true = true → (l.setIfInBounds i true).getD k true = true := fun {k} hk => by
    by_cases d : i = k
    · subst d
      by_cases m : i < l.size
      · simp [m]
      · simp [m]
    · rw [getD_set_ne true d]; exact hk
  by_cases b : i = j
  · subst b
    obtain ⟨_, s, g, a⟩ := mem_ready.1 r
    rw [q] at g
    cases g
    refine up ?_
    have := a e he n
    by_cases m : e.on < l.size
    · simp [m] at this ⊢; exact this
    · simp [m]
  · rw [getD_set_ne true b] at p
    exact up (h j o q p e he n)
def wO (P : Program) (ops : Array Oper) (S : Array Bool → World → Prop) (i : Nat) (o : Oper) (v : Value) (a : Act) : Prop :=
  (Region.wanted o (yielded ops a.tmps) = true ∧ ∀ l w, Al ops i l → S l w → (execOp a.eval o).run P w = .ok (.value v) w) ∨
  (Region.wanted o (yielded ops a.tmps) = false ∧ v = undef)
theorem wO.MI {i : Nat} {o : Oper} {v : Value} {a : Act} {l : Array Bool} (h : wO P ops S i o v a) (hp : Al ops i l) : YieldsIf P ops (S l) o v a :=
  h.imp (fun ⟨h1, b⟩ => ⟨h1, fun w hw => b l w hp hw⟩) id
def FJ (P : Program) (ops : Array Oper) (Q : Exit → Act → World → Prop) (S : Array Bool → World → Prop) : Nat → Array Bool → Act → World → Prop
  | 0, l, a, w => Region.ready .any ops l = [] ∧ Q .normal a w
  | n + 1, l, a, w => (Region.ready .any ops l = [] → Q .normal a w) ∧
    ∀ i ∈ Region.ready .any ops l, wpOp P ops Q i (fun d b => S (l.setIfInBounds i true) b ∧ FJ P ops Q S n (l.setIfInBounds i true) d b) a w
theorem Fu : ∀ (n : Nat) (l : Array Bool) (a : Act) (w : World), FJ P ops Q S n l a w → wpAny P .any ops Q n l a w
  | 0, _, _, _, h => h
  | n + 1, _, _, _, h => ⟨h.1, fun i g => wpOp_mono (fun b j d => Fu n _ b j d.2) (h.2 i g)⟩
theorem HJ {i j : Nat} {d q : Oper} {v : Value} (u : ops[j]? = some q) (m : d.apart ops q = true) (n : ∀ cs b, d.op ≠ .select cs b) (p : ∀ cs b, q.op ≠ .select cs b) (t : ∀ c a w, Q (.panic c) (a.put d.dst v) w → Q (.panic c) a w) {K : Act → World → Prop} {a : Act} {w : World} (x : wO P ops S i d v a) (h : wpOp P ops Q j K (a.put d.dst v) w) :
    wpOp P ops Q j (fun g s => wO P ops S i d v g ∧ K (g.put d.dst v) s) a w := by
  have h1 : YieldsIf P ops (fun w => ∃ l, Al ops i l ∧ S l w) d v a := x.imp (fun ⟨h1, k⟩ => ⟨h1, fun w ⟨l, hp, hw⟩ => k l w hp hw⟩) id
  refine wpOp_mono (fun g s r => ⟨r.1.imp (fun ⟨h1, k⟩ => ⟨h1, fun l w hp hw => k w ⟨l, hp, hw⟩⟩) id, r.2⟩) (wpOp_putIf (S := fun w => ∃ l, Al ops i l ∧ S l w) u m n p t h1 h)
theorem CR {i : Nat} {x : Oper} {v : Value} (R : ops[i]? = some x) (s : ∀ (j : Nat) (o : Oper) cs b, ops[j]? = some o → o.op ≠ .select cs b) (hQ : ∀ c a w, Q (.panic c) (a.put x.dst v) w → Q (.panic c) a w) (hm : ∀ l w, S (l.setIfInBounds i true) w → S l w) :
    ∀ (n : Nat) (l : Array Bool) (a : Act) (w : World), (∀ j y, ops[j]? = some y → j ≠ i → l.getD j true = false → (∀ e ∈ y.after, Region.binds .any e = true → e.on ≠ i) → x.apart ops y = true) →
      qO ops l → i ∈ Region.ready .any ops l → wO P ops S i x v a → S (l.setIfInBounds i true) w → FJ P ops Q S n (l.setIfInBounds i true) (a.put x.dst v) w → FJ P ops Q S (n + 1) l a w := by
  intro n
  induction n with
  | zero =>
    intro l a w _ I q J z H
    refine ⟨fun h => (by rw [h] at q; cases q), fun j D => ?_⟩
    by_cases d : j = i
    · subst d
      exact (J.MI ⟨I, (mem_ready.1 q).1⟩).wpOp R (hm l w z) ⟨z, H⟩
    · have := ready_mono D d
      rw [H.1] at this
      cases this
  | succ n ih =>
    intro l a w m I q J z H
    refine ⟨fun h => (by rw [h] at q; cases q), fun j D => ?_⟩
    by_cases d : j = i
    · subst d
      exact (J.MI ⟨I, (mem_ready.1 q).1⟩).wpOp R (hm l w z) ⟨z, H⟩
    have h1 := H.2 j (ready_mono D d)
    obtain ⟨r, y, u, A⟩ := mem_ready.1 D
    have F : ∀ e ∈ y.after, Region.binds .any e = true → e.on ≠ i := fun e he hb O => by
      have t := A e he hb
      have Y := (mem_ready.1 q).1
      rw [O] at t
      rcases Nat.lt_or_ge i l.size with L | L
      · simp [L] at Y t; rw [Y] at t; cases t
      · simp [Array.getElem?_eq_none L] at t
    have t := HJ u (m j y u d r F) (fun cs b => s i x cs b R) (fun cs b => s j y cs b u) hQ J h1
    have p : ∀ k ok, ops[k]? = some ok → k ≠ i → (l.setIfInBounds j true).getD k true = false → (∀ e ∈ ok.after, Region.binds .any e = true → e.on ≠ i) → x.apart ops ok = true := fun k ok hk T G U => by
      refine m k ok hk T ?_ U
      by_cases E : j = k
      · subst E; exact r
      · rw [getD_set_ne true E] at G; exact G
    have g : (l.setIfInBounds i true).setIfInBounds j true = (l.setIfInBounds j true).setIfInBounds i true := Array.setIfInBounds_comm _ _ (Ne.symm d)
    refine wpOp_mono (fun a' W M => ?_) t
    have Z : S ((l.setIfInBounds j true).setIfInBounds i true) W := by rw [← g]; exact M.2.1
    refine ⟨hm _ W Z, ih (l.setIfInBounds j true) a' W p (I.set D) (ready_mono q (Ne.symm d)) M.1 Z ?_⟩
    rw [← g]
    exact M.2.2
end
def PX (P : Program) (n : Nat) (ops : Array Oper) (Q : ko) (S : Array Bool → World → Prop) (fuel : Nat) (listed : Array Bool) (E : Nat → Value) (W : World) : Prop :=
  qO ops listed → ∀ a, Ag n a E → FJ P ops (lift n Q) S fuel listed a W
section
variable {P : Program} {n : Nat} {Q : ko} {E : Nat → Value} {W : World} {ops : Array Oper} {S : Array Bool → World → Prop} {fuel : Nat} {listed : Array Bool}
theorem ER {id : Nat} {l : List Oper} (S : Array Bool → World → Prop) (hm : P.follows .mixedOrders = true) (h : PX P n l.toArray Q S l.length (Array.replicate l.length false) E W.drew) : CW P n (.region id l.toArray true) Q E W := fun a ha =>
  wp_region_any hm (Fu _ _ _ _ (h (qO.start _ (by simp)) a ha))
def vx (ops : Array Oper) (listed : Array Bool) (i : Nat) : Bool := Region.noSelect ops && Region.free .any ops listed i && (Region.ready .any ops listed).contains i
theorem cY {o : Oper} {dd : Nat} {v : Value} (i : Nat) (g : ops[i]? = some o) (hk : vx ops listed i = true) (hw : mD n ops E o) (m : o.dst = some dd) (p : dd < n) (hm : ∀ l w, S (l.setIfInBounds i true) w → S l w) (k : S (listed.setIfInBounds i true) W) (q : ∀ l W, Al ops i l → S l W → et P E o W v W) (h : PX P n ops Q S fuel (listed.setIfInBounds i true) (gB E dd v) W) : PX P n ops Q S (fuel + 1) listed E W := fun d a ha => by
  simp only [vx, Bool.and_eq_true] at hk
  have j : i ∈ Region.ready .any ops listed := by simpa using hk.2
  exact CR g (Region.noSelect_spec hk.1.1) (fun _ _ _ h => h) hm fuel listed a W (Region.free_spec g hk.1.2) d j (.inl ⟨hw.of ha, fun l w hp b => by rw [ha.eval]; exact q l w hp b⟩) k (by rw [m]; exact h (d.set j) _ (ha.put p v))
theorem mB {A : Value → Prop} {o : Oper} {dd : Nat} (i : Nat) (g : ops[i]? = some o) (hk : vx ops listed i = true) (hw : mD n ops E o) (d : o.dst = some dd) (j : dd < n) (hm : ∀ l w, S (l.setIfInBounds i true) w → S l w) (b : S (listed.setIfInBounds i true) W) (k : ∃ p, A p ∧ ∀ W, et P E o W p W) (h : ∀ p, A p → PX P n ops Q S fuel (listed.setIfInBounds i true) (gB E dd p) W) : PX P n ops Q S (fuel + 1) listed E W := by
  obtain ⟨p, h1, a⟩ := k
  exact cY i g hk hw d j hm b (fun _ W _ _ => a W) (h p h1)
theorem Fy {o : Oper} {dd : Nat} (i : Nat) (d : ops[i]? = some o) (hk : vx ops listed i = true) (hw : ∀ a, Ag n a E → Region.wanted o (yielded ops a.tmps) = false) (k : o.dst = some dd) (m : dd < n) (hm : ∀ l w, S (l.setIfInBounds i true) w → S l w) (j : S (listed.setIfInBounds i true) W) (h : PX P n ops Q S fuel (listed.setIfInBounds i true) (gB E dd undef) W) : PX P n ops Q S (fuel + 1) listed E W := fun b a ha => by
  simp only [vx, Bool.and_eq_true] at hk
  have g : i ∈ Region.ready .any ops listed := by simpa using hk.2
  exact CR d (Region.noSelect_spec hk.1.1) (fun _ _ _ h => h) hm fuel listed a W (Region.free_spec d hk.1.2) b g (.inr ⟨hw a ha, rfl⟩) j (by rw [k]; exact h (b.set g) _ (ha.put m _))
theorem Mg {o : Oper} {dd j t : Nat} {want : Bool} (i : Nat) (m : ops[i]? = some o) (hk : vx ops listed i = true) (k : o.guard = some (j, want)) (p : (ops[j]?).bind (·.dst) = some t) (r : t < n) (b : E t = .bool (!want)) (g : o.dst = some dd) (q : dd < n) (hm : ∀ l w, S (l.setIfInBounds i true) w → S l w) (d : S (listed.setIfInBounds i true) W) (h : PX P n ops Q S fuel (listed.setIfInBounds i true) (gB E dd undef) W) : PX P n ops Q S (fuel + 1) listed E W :=
  Fy i m hk (fun a ha => by have s := ha.yield p r b; simp [Region.wanted, k, s]) g q hm d h
theorem KV {o : Oper} {dd j t : Nat} {want : Bool} (i : Nat) (m : ops[i]? = some o) (hk : vx ops listed i = true) (k : o.guard = some (j, want)) (p : (ops[j]?).bind (·.dst) = some t) (r : t < n) (b : E t = undef) (g : o.dst = some dd) (q : dd < n) (hm : ∀ l w, S (l.setIfInBounds i true) w → S l w) (d : S (listed.setIfInBounds i true) W) (h : PX P n ops Q S fuel (listed.setIfInBounds i true) (gB E dd undef) W) : PX P n ops Q S (fuel + 1) listed E W :=
  Fy i m hk (fun a ha => by have s := ha.BF p r b; simp [Region.wanted, k, s]) g q hm d h
theorem LD {o : Oper} {dd : Nat} (i : Nat) (s : ops[i]? = some o) (g : Region.ready .any ops listed = [i]) (hw : mD n ops E o) (l : o.dst = some dd) (m : dd < n) (h : fT P E o W fun v W' => S (listed.setIfInBounds i true) W' ∧ PX P n ops Q S fuel (listed.setIfInBounds i true) (gB E dd v) W') : PX P n ops Q S (fuel + 1) listed E W := fun k a ha => by
  have b : i ∈ Region.ready .any ops listed := by rw [g]; simp
  refine ⟨fun r => (by rw [r] at g; cases g), fun j p => ?_⟩
  rw [g] at p
  obtain rfl := List.mem_singleton.1 p
  unfold wpOp
  simp only [s]
  rw [if_pos (hw.of ha)]
  refine .inl ?_
  unfold Oper.wp
  rw [ha.eval]
  rcases h with ⟨v, W', h1, d⟩ | ⟨W', h1, d⟩ | ⟨f, args, h1, d⟩
  · rw [h1, Oper.upon_value]; exact ⟨d.1, by rw [l]; exact d.2 (k.set b) _ (ha.put m v)⟩
  · rw [h1, Oper.upon_skip]; exact ⟨d.1, by rw [l]; exact d.2 (k.set b) _ (ha.put m _)⟩
  · rw [h1, Oper.upon_enter]
    refine Calls.mono d ?_
    rintro e t ⟨v, rfl, q⟩
    exact ⟨q.1, by simp only [l]; exact q.2 (k.set b) _ (ha.put m v)⟩
theorem Mj {o : Oper} (i : Nat) (r : ops[i]? = some o) (g : Region.ready .any ops listed = [i]) (hw : mD n ops E o) (l : o.dst = none) (h : fT P E o W fun _ W' => S (listed.setIfInBounds i true) W' ∧ PX P n ops Q S fuel (listed.setIfInBounds i true) E W') : PX P n ops Q S (fuel + 1) listed E W := fun k a ha => by
  have b : i ∈ Region.ready .any ops listed := by rw [g]; simp
  refine ⟨fun q => (by rw [q] at g; cases g), fun j m => ?_⟩
  rw [g] at m
  obtain rfl := List.mem_singleton.1 m
  unfold wpOp
  simp only [r]
  rw [if_pos (hw.of ha)]
  refine .inl ?_
  unfold Oper.wp
  rw [ha.eval]
  rcases h with ⟨v, W', h1, d⟩ | ⟨W', h1, d⟩ | ⟨f, args, h1, d⟩
  · rw [h1, Oper.upon_value, l]; exact ⟨d.1, d.2 (k.set b) _ (ha.sS _)⟩
  · rw [h1, Oper.upon_skip, l]; exact ⟨d.1, d.2 (k.set b) _ (ha.sS _)⟩
  · rw [h1, Oper.upon_enter]
    refine Calls.mono d ?_
    rintro e s ⟨v, rfl, p⟩
    simp only [l]
    exact ⟨p.1, p.2 (k.set b) _ (ha.sS _)⟩
theorem dG (d : Region.ready .any ops listed = []) (h : Q .normal E W) : PX P n ops Q S fuel listed E W := fun _ a ha => by
  cases fuel with
  | zero => exact ⟨d, E, ha, h⟩
  | succ f => exact ⟨fun _ => ⟨E, ha, h⟩, fun i b => by rw [d] at b; cases b⟩
theorem tX {p : Prop} {b : Bool} (a : b = true) (h : b = false) : p := by rw [a] at h; cases h
theorem fO {a : Array Bool} (b : listed = a) (h : PX P n ops Q S fuel a E W) : PX P n ops Q S fuel listed E W := by rw [b]; exact h
theorem wB {o r : Oper} {d s : Nat} (i j : Nat) (G : ops[i]? = some o) (I : ops[j]? = some r) (p : Region.ready .any ops listed = [i, j]) (hw : mD n ops E o) (x : mD n ops E r) (l : o.dst = some d) (u : r.dst = some s) (m : d < n) (w : s < n) (h : fT P E o W fun v W' => S (listed.setIfInBounds i true) W' ∧ PX P n ops Q S fuel (listed.setIfInBounds i true) (gB E d v) W') (D : fT P E r W fun v W' => S (listed.setIfInBounds j true) W' ∧ PX P n ops Q S fuel (listed.setIfInBounds j true) (gB E s v) W') : PX P n ops Q S (fuel + 1) listed E W := fun t a ha => by
  have key : ∀ (k : Nat) (q : Oper) (e : Nat), ops[k]? = some q → k ∈ Region.ready .any ops listed → mD n ops E q → q.dst = some e → e < n → (fT P E q W fun v W' => S (listed.setIfInBounds k true) W' ∧ PX P n ops Q S fuel (listed.setIfInBounds k true) (gB E e v) W') →
      wpOp P ops (lift n Q) k (fun A y => S (listed.setIfInBounds k true) y ∧ FJ P ops (lift n Q) S fuel (listed.setIfInBounds k true) A y) a W := by
    intro k q e hk b hw l m h
    unfold wpOp
    simp only [hk]
    rw [if_pos (hw.of ha)]
    refine .inl ?_
    unfold Oper.wp
    rw [ha.eval]
    rcases h with ⟨v, W', h1, g⟩ | ⟨W', h1, g⟩ | ⟨f, args, h1, g⟩
    · rw [h1, Oper.upon_value]; exact ⟨g.1, by rw [l]; exact g.2 (t.set b) _ (ha.put m v)⟩
    · rw [h1, Oper.upon_skip]; exact ⟨g.1, by rw [l]; exact g.2 (t.set b) _ (ha.put m _)⟩
    · rw [h1, Oper.upon_enter]
      refine Calls.mono g ?_
      rintro e y ⟨v, rfl, z⟩
      exact ⟨z.1, by simp only [l]; exact z.2 (t.set b) _ (ha.put m v)⟩
  refine ⟨fun F => (by rw [F] at p; cases p), fun k hk => ?_⟩
  rw [p] at hk
  rcases List.mem_cons.1 hk with rfl | hk
  · exact key _ o d G (by rw [p]; simp) hw l m h
  · obtain rfl := List.mem_singleton.1 hk
    exact key _ r s I (by rw [p]; simp) x u w D
theorem dW {l : Array Bool} {i j : Nat} {A : Prop} (a : Nat.beq i j = false) (h : (l.setIfInBounds i true).getD j true = false → A) : l.getD j true = false → A := fun b => h (by
  rw [getD_set_ne true (fun e => by subst e; simp at a)]; exact b)
end
theorem uu.at {α : Type} {e : TypeId} {enc : α → List Value} {k : Nat} {v : Value} {l : List α} {R : List (Nat × Obj)} (h : bG e enc k v l R) (hk : ∀ x, (enc x).length = k) {p : Value} {i : Nat} (hp : uu R k p i) {x : α} (d : l[i]? = some x) : At (uj R) p (enc x) := by
  obtain ⟨a, cur, cap, rfl, rfl, _, _, _, _, rfl, b⟩ := vc h hk hp d
  exact ⟨a, i * k, cur, e, (0, 0), rfl, by simp [uj], b⟩
theorem pH.form {κ β : Type} {kenc : κ → Value} {vf : β → Value} {μ : bW} {v : Value} {l : List (κ × β)} (h : pH kenc vf μ v l) : ∃ r, v = .map r := by
  rcases h with ⟨h, _⟩ | ⟨m, es, clock, h, _⟩
  · exact ⟨_, h⟩
  · exact ⟨_, h⟩
noncomputable def Bf {β : Type} (l : List (ByteArray × β)) : Option (List ByteArray) :=
  open Classical in if (l.map (·.1)).Nodup ∧ (∀ p ∈ l, p.1.size ≤ maxLen) ∧ l.length * 16 ≤ 140737488355328 then some (oy (l.map (·.1))) else none
def Ha {κ κ2 β α : Type} (a : Nat) (mk : κ → κ2 → α) (l : List (κ × List (κ2 × β))) : Option (List α) :=
  if (l.flatMap (fun p => p.2.map (fun q => mk p.1 q.1))).length * a ≤ 140737488355328 ∧ (l.flatMap (fun p => p.2.map (fun q => mk p.1 q.1))).length ≤ maxLen then some (l.flatMap (fun p => p.2.map (fun q => mk p.1 q.1))) else none
end Go.Proofs.YtmlncblocfcmiaaGreat
namespace Go.Proofs.YtmlncblocfcmiaaGreat
open Go.RowKit
section
variable {P : Program} {n : Nat} {Q : ko} {E : Nat → Value} {W : World} {ops : Array Oper} {rest : List Oper}
variable {dd : Bool} {α : Type} {enc : α → List Value} {k : Nat} {μ : bW} {v : Value}
variable {d : Option Nat} {ty : TypeId} {pos : String} {af : Array Edge} {g : Option (Nat × Bool)} {F : Nat → Prop} {w : World} {L : List (Nat × Obj)}
theorem HC {x y : Operand} {ats : Array TypeId} {k : IntKind} {a b : Int} (h : aS E x = .int k a) (i : aS E y = .int k b) :
    et P E ⟨d, .call ⟨.builtin .max, #[x, y], ats⟩, ty, pos, af, g⟩ W (.int k (if b > a then b else a)) W := by
  show (do let d ← resolve (aS E) ⟨.builtin .max, #[x, y], ats⟩ ty; invoke d.target d.args : Sem Next).run P W = _
  simp [resolve, invoke, h, i, builtin, Builtin.max_, Builtin.max2]
end
end Go.Proofs.YtmlncblocfcmiaaGreat
namespace Go.Proofs.YtmlncblocfcmiaaGreat
open Go.RowKit
variable {dd : Bool}
section
variable {P : Program} {fn : Func} {R : Ending → World → Prop} {E : Nat → Value} {W : World}
theorem ir {a : Tmp} {t0 : TypeId} {a0 : Addr} {v0 : Value} {b : Tmp} {v1 : Value} (g : fn.results = #[.cell a t0, .tmp b]) (d : E a = .pointer (some a0)) (j : (Instr.loadAt t0 (.pointer (some a0))).run P W = .ok v0 W) (h1 : E b = v1) (h : R (.returned (.tuple #[v0, v1])) W) : ru P fn R .ret E W :=
  ⟨.tuple #[v0, v1], fun tmps i => by
    have k : (loadVar t0 a0).run P W = .ok v0 W := by simpa [Instr.loadAt, Instr.sureAddr] using j
    simp [results, g, i, asAddr, d, k, h1], h⟩
theorem DV {a : Tmp} {v0 : Value} {b : Tmp} {v1 : Value} {d : Tmp} {v2 : Value} (j : fn.results = #[.tmp a, .tmp b, .tmp d]) (g : E a = v0) (h1 : E b = v1) (i : E d = v2) (h : R (.returned (.tuple #[v0, v1, v2])) W) : ru P fn R .ret E W :=
  ⟨.tuple #[v0, v1, v2], fun tmps k => by
    skip
    simp [results, j, k, asAddr, g, h1, i], h⟩
end
end Go.Proofs.YtmlncblocfcmiaaGreat
namespace Go.Proofs.YtmlncblocfcmiaaGreat
open Go.RowKit
section
variable {x y : Nat × Obj} {A B C L R S : List (Nat × Obj)}
theorem Pz : (x :: A).Perm (x :: A) := .refl _
theorem Pb (h : A.Perm (x :: B)) : (y :: A).Perm (x :: y :: B) := (h.cons y).trans (.swap ..)
theorem Pr (h : A.Perm (x :: B)) : (S ++ A).Perm (x :: (S ++ B)) := (h.append_left S).trans List.perm_middle
theorem Qz : (R ++ A).Perm (R ++ A) := .refl _
theorem Qb (h : A.Perm (R ++ B)) : (y :: A).Perm (R ++ (y :: B)) := (h.cons y).trans List.perm_middle.symm
theorem Qr (h : A.Perm (R ++ B)) : (S ++ A).Perm (R ++ (S ++ B)) := (h.append_left S).trans (List.perm_append_comm_assoc S R B)
def eE (L L' : List (Nat × Obj)) : Prop := ∃ M, L.Perm (L' ++ M)
theorem Sn : eE L [] := ⟨L, .refl _⟩
theorem St : eE L L := ⟨[], by rw [List.append_nil]⟩
theorem Sb (h : L.Perm (x :: A)) (k : eE A B) : eE L (x :: B) := let ⟨M, m⟩ := k; ⟨M, h.trans (m.cons x)⟩
theorem Sr (h : L.Perm (R ++ A)) (k : eE A B) : eE L (R ++ B) := let ⟨M, m⟩ := k; ⟨M, by rw [List.append_assoc]; exact h.trans (m.append_left R)⟩
theorem Kb (k : eE A B) : eE (x :: A) (x :: B) := Sb Pz k
theorem Kr (k : eE A B) : eE (R ++ A) (R ++ B) := Sr Qz k
theorem Db (k : eE A B) : eE (x :: A) B := let ⟨M, m⟩ := k; ⟨x :: M, (m.cons x).trans List.perm_middle.symm⟩
theorem Dr (k : eE A B) : eE (R ++ A) B := let ⟨M, m⟩ := k; ⟨R ++ M, (m.append_left R).trans (List.perm_append_comm_assoc R B M)⟩
theorem eE.mem (s : eE L A) : ∀ p, p ∈ A → p ∈ L := fun p hp => let ⟨M, m⟩ := s; m.mem_iff.2 (List.mem_append_left _ hp)
theorem ST.aF {dd : Bool} {F : Nat → Prop} {w W : World} {μ : bW} (h : ST dd F w W μ L) (s : eE L A) : ST dd F w W μ A := let ⟨M, m⟩ := s; (h.perm m).sublist (List.sublist_append_left A M)
theorem gf.aF {μ : bW} {W : World} (h : gf μ L W) (s : eE L A) : gf μ A W := h.sub (bO.refl _) s.mem
theorem gf.na {μ μ' : bW} {W : World} (h : gf μ L W) (a : bO μ' μ) (s : eE L A) : gf μ' A W := h.sub a s.mem
theorem Cn : L.Perm ([] ++ L) := .refl _
theorem Cb (h : L.Perm (x :: A)) (k : A.Perm (B ++ C)) : L.Perm ((x :: B) ++ C) := h.trans (k.cons x)
theorem Cr (h : L.Perm (R ++ A)) (k : A.Perm (B ++ C)) : L.Perm ((R ++ B) ++ C) := by rw [List.append_assoc]; exact h.trans (k.append_left R)
theorem C0 (k : L.Perm (B ++ C)) : L.Perm (([] ++ B) ++ C) := k
theorem Tn : ([] ++ A).Perm A := .refl _
theorem Tb (h : (A ++ B).Perm C) : ((x :: A) ++ B).Perm (x :: C) := h.cons x
theorem Tr (h : (A ++ B).Perm C) : ((R ++ A) ++ B).Perm (R ++ C) := by rw [List.append_assoc]; exact h.append_left R
theorem Nb (h : L.Perm (x :: A)) (k : A.Perm B) : L.Perm (x :: B) := h.trans (k.cons x)
theorem Nr (h : L.Perm (R ++ A)) (k : A.Perm B) : L.Perm (R ++ B) := h.trans (k.append_left R)
theorem Nz : L.Perm L := .refl _
theorem Nf {R' R1 : List (Nat × Obj)} (hp : R.Perm (R' ++ R1)) : (R ++ A).Perm (R' ++ (R1 ++ A)) := by rw [← List.append_assoc]; exact hp.append_right A
theorem Mh : x ∈ x :: A := .head _
theorem Mt (h : x ∈ A) : x ∈ y :: A := .tail _ h
theorem Ma (h : x ∈ A) : x ∈ R ++ A := List.mem_append_right _ h
theorem Ml (h : x ∈ R) : x ∈ R ++ A := List.mem_append_left _ h
end
section
variable {dd : Bool} {F : Nat → Prop} {w W : World} {μ : bW} {L L0 L1 Y R : List (Nat × Obj)}
theorem ST.Bx (h : ST dd cA w W μ L) (s : eE L L1) : ny dd [] L1 w W := let ⟨_, m⟩ := s; (h.perm m).LX
theorem ST.ej (h : ST dd (keys L0) w W μ L) (s : eE L L1) : ny dd L0 L1 w W := let ⟨_, m⟩ := s; (h.perm m).Mc
theorem ST.DR : ∀ {R : List (Nat × Obj)} {μ : bW}, ST dd F w W μ (R ++ Y) → ∃ μ', ST dd F w W μ' Y ∧ bO μ μ' ∧ Lo F w μ μ' ∧ ∀ b o, (b, o) ∈ R → μ' b = some o
  | [], μ, h => ⟨μ, h, bO.refl _, Lo.refl, fun _ _ h => by cases h⟩
  | (g, o) :: R, μ, h => by
    have d : ST dd F w W μ ([] ++ (g, o) :: (R ++ Y)) := h
    obtain ⟨μ', i, a2, a3, a4⟩ := ST.DR (R := R) (ST.Cs (A := []) d)
    refine ⟨μ', i, (ST.CA (A := []) d).trans a2, (ST.HN (A := []) d).trans a3, fun b j a => ?_⟩
    rcases List.mem_cons.1 a with a | a
    · cases a; exact a2 _ _ (if_pos rfl)
    · exact a4 b j a
theorem ST.I3 {α : Type} {e' : TypeId} {enc : α → List Value} {k : Nat} {v : Value} {l : List α} (a : ST dd F w W μ (R ++ Y)) (h : bG e' enc k v l R) (hk : ∀ x, (enc x).length = k) : ∃ μ', ST dd F w W μ' Y ∧ bO μ μ' ∧ Lo F w μ μ' ∧ Sl (Pl enc) k μ' v l := by
  obtain ⟨μ', b, a2, a3, a4⟩ := ST.DR a
  exact ⟨μ', b, a2, a3, h.sl hk a4⟩
section
variable {P : Program} {n : Nat} {Q : ko} {E : Nat → Value} {V : World} {id : Nat} {l : List Oper} {A B C : List (Nat × Obj)}
theorem cT (a : gf μ A V.drew) (hm : P.follows .mixedOrders = true) (h : PX P n l.toArray Q (fun _ W => gf μ A W) l.length (Array.replicate l.length false) E V.drew) : CW P n (.region id l.toArray true) Q E V := ER _ hm h
theorem oE (i : Nat) (a : gf μ A V.drew) (h1 : gf μ B V.drew) (hm : P.follows .mixedOrders = true) (h : PX P n l.toArray Q (fun l W => gf μ A W ∧ (l.getD i true = false → gf μ B W)) l.length (Array.replicate l.length false) E V.drew) : CW P n (.region id l.toArray true) Q E V := ER _ hm h
end
structure gj (μ : bW) (L0 : List (Nat × Obj)) (w : World) : Prop where
  H : yT L0 w
  N : (L0.map (·.1)).Nodup
  S : bO μ (nP w L0)
theorem ST.HO (h : gj μ L0 w) : ST dd (keys L0) w w μ L0 := (ST.KW h.H h.N).dK h.S
end
section
variable {dd : Bool} {P : Program} {E : Nat → Value} {W : World} {d : Option Nat} {ty : TypeId} {pos : String} {af : Array Edge} {g : Option (Nat × Bool)} {F : Nat → Prop} {w : World} {μ : bW} {L : List (Nat × Obj)}
theorem aX {K : Value → World → Prop} {B : List (Nat × Obj)} {t : TypeId} {x y : Operand} (v : Value) {b off : Nat} {cs : Array Value} {T : TypeId} (a : Array Value) (i : ST dd F w W μ ((b, .cells cs T (0, 0)) :: B)) (m : aS E x = .pointer (some ⟨b, off, none⟩)) (n : aS E y = v) (j : ∀ w, (sizeOf t).run P w = .ok v.cells.size w) (h1 : ∀ u ∈ v.cells.toList, u.oneCell' = true) (l : off + v.cells.size ≤ cs.size) (k : (cs.toList.take off ++ v.cells.toList ++ cs.toList.drop (off + v.cells.size)).toArray = a) (h : ∀ W', ST dd F w W' μ ((b, .cells a T (0, 0)) :: B) → K undef W') : fT P E ⟨d, .store t x y, ty, pos, af, g⟩ W K := J3 [] v a i m n j h1 l k h
end
section
variable {dd : Bool}
variable {P : Program} {n : Nat} {Q : ko} {E : Nat → Value} {W : World} {ops : Array Oper} {rest : List Oper}
  {d : Option Nat} {ty : TypeId} {pos : String} {af : Array Edge} {g : Option (Nat × Bool)}
  {F : Nat → Prop} {w : World} {μ : bW} {L : List (Nat × Obj)}
theorem ga {K : Value → World → Prop} {α : Type} {e t : TypeId} {enc : α → List Value} {k a : Nat} {z v vs : Value} {l m r : List α} {R Y : List (Nat × Obj)} {x y : Operand} {i : TypeInfo} (b : ST dd F w W μ (R ++ Y)) (hk : ∀ x, (enc x).length = k) (n : 0 < k) (h1 : ∀ x, ∀ u ∈ enc x, u.oneCell' = true) (J : P.underlying t = some (.slice e)) (G : P.info? e = some i) (O : i.zero = some z) (q : z.cells.size = k) (p : i.size = k) (j : i.bytes = a) (L : aS E x = v) (M : aS E y = vs) (A : bG e enc k v l R) (I : Sl (Pl enc) k (hp W) vs m) (D : eT a l m = some r) (h : ∀ W' s R', ST dd F w W' μ (R' ++ Y) → bG e enc k s r R' → K s W') : fT P E ⟨d, .call ⟨.builtin .append, #[x, y], #[t, t]⟩, ty, pos, af, g⟩ W K :=
  D2 [] b hk n h1 J G O q p j L M A I D h
end
section
variable {dd : Bool}
variable {P : Program} {E : Nat → Value} {W : World} {d : Option Nat} {ty : TypeId} {pos : String} {af : Array Edge} {g : Option (Nat × Bool)}
  {F : Nat → Prop} {w : World} {μ : bW} {L : List (Nat × Obj)}
theorem GW {K : Value → World → Prop} {α : Type} {e : TypeId} {enc : α → List Value} {k : Nat} {l : List α} {f : FuncId} {fv : Operand} {ax : Array Operand} {ats : Array TypeId} {caps : Array Value} {args : List Value} (Y : List (Nat × Obj)) (a : ST dd F w W μ Y) (i : aS E fv = .func (.func f) #[] caps) (he : ∀ args w, (callFunc f args).run P w = .ok (.enter f args) w) (ha : ax.map (aS E) ++ caps = args.toArray) (b : dP dd P f args W e enc k l) (h : ∀ W' v μ' R, ST dd F w W' μ' (R ++ Y) → bO μ μ' → Lo F w μ μ' → bG e enc k v l R → K v W') : fT P E ⟨d, .call ⟨.value fv, ax, ats⟩, ty, pos, af, g⟩ W K :=
  GR [] Y a i he ha b h
end
section
variable {dd : Bool}
variable {P : Program} {E : Nat → Value} {W : World} {d : Option Nat} {ty : TypeId} {pos : String} {af : Array Edge} {g : Option (Nat × Bool)}
  {F : Nat → Prop} {w : World} {μ : bW} {L : List (Nat × Obj)} {α : Type} {e' : TypeId} {enc : α → List Value} {k : Nat} {v : Value} {l : List α} {R : List (Nat × Obj)}
theorem wV {K : Value → World → Prop} {Y : List (Nat × Obj)} {t : TypeId} {x y : Operand} {p u : Value} {i : Nat} {x0 x1 : α} (a : ST dd F w W μ (R ++ Y)) (h : bG e' enc k v l R) (hk : ∀ x, (enc x).length = k) (h1 : ∀ x, ∀ u ∈ enc x, u.oneCell' = true) (n : aS E x = p) (q : aS E y = u) (hu : u.cells = (enc x1).toArray) (hp : uu R k p i) (m : l[i]? = some x0) (j : ∀ w, (sizeOf t).run P w = .ok k w) (b : ∀ W' R', ST dd F w W' μ (R' ++ Y) → bG e' enc k v (l.set i x1) R' → K undef W') : fT P E ⟨d, .store t x y, ty, pos, af, g⟩ W K :=
  GJ [] a h hk h1 n q hu hp m j b
end
section
variable {dd : Bool}
variable {P : Program} {E : Nat → Value} {W : World} {d : Option Nat} {ty : TypeId} {pos : String} {af : Array Edge} {g : Option (Nat × Bool)}
  {F : Nat → Prop} {w : World} {μ : bW} {L : List (Nat × Obj)} {α : Type} {e' : TypeId} {enc : α → List Value} {k : Nat} {v : Value} {l : List α} {R : List (Nat × Obj)}
theorem wy {K : Value → World → Prop} (z : α) {Y : List (Nat × Obj)} {t e : TypeId} {x : Operand} {u b : Value} {i : Nat} (a : ST dd F w W μ (R ++ Y)) (h : bG e' enc k v l R) (hk : ∀ x, (enc x).length = k) (h1 : ∀ x, ∀ u ∈ enc x, u.oneCell' = true) (n : P.underlying t = some (.slice e)) (q : ∀ w, (zeroValue e).run P w = .ok b w) (hu : uC k v i u) (m : b.cells = (enc z).toArray) (p : aS E x = u) (j : ∀ W' R', ST dd F w W' μ (R' ++ Y) → bG e' enc k v (ib l i z) R' → K (.tuple #[]) W') : fT P E ⟨d, .call ⟨.builtin .clear, #[x], #[t]⟩, ty, pos, af, g⟩ W K :=
  E6 z [] a h hk h1 n q hu m p j
end
section
variable {dd : Bool}
variable {κ γ : Type} {Q : Value → γ → List (Nat × Obj) → Prop} {beq : κ → κ → Bool} {kenc : κ → Value}
variable {P : Program} {W : World} {kt : TypeId} {E : Nat → Value} {d : Option Nat} {ty : TypeId} {pos : String} {af : Array Edge} {g : Option (Nat × Bool)} {F : Nat → Prop} {w : World} {μ : bW} {L : List (Nat × Obj)}
variable {κ2 β : Type} {kenc2 : κ2 → Value} {vf : β → Value} {beq2 : κ2 → κ2 → Bool} {kt2 : TypeId}
theorem H6 {i : Value → World → Prop} {Y R : List (Nat × Obj)} {t e : TypeId} {m x y : Operand} {p : Value} {b : List (κ × Value)} {l n : List (κ × List (κ2 × β))} {k : κ} {j : κ2} {v : β} (hk : ∀ {x y : κ}, beq x y = true → x = y) (K : ja P kt2 kenc2 beq2) (s : P.underlying t = some (.map kt2 e)) (a : ST dd F w W μ (R ++ Y)) (h : fl kenc (ek kenc2 vf) p b l R) (hm : aS E m = kO beq b k (.map none)) (u : aS E x = kenc2 j) (z : aS E y = vf v) (r : AE beq beq2 l k j v = some n) (q : ∀ W' R', ST dd F w W' μ (R' ++ Y) → fl kenc (ek kenc2 vf) p b n R' → i undef W') : fT P E ⟨d, .mapUpdate t m x y, ty, pos, af, g⟩ W i :=
  HQ [] hk K s a h hm u z r q
end
section
variable {dd : Bool}
variable {κ γ : Type} {Q : Value → γ → List (Nat × Obj) → Prop} {beq : κ → κ → Bool} {kenc : κ → Value}
variable {P : Program} {W : World} {kt : TypeId} {E : Nat → Value} {d : Option Nat} {ty : TypeId} {pos : String} {af : Array Edge} {g : Option (Nat × Bool)} {F : Nat → Prop} {w : World} {μ : bW} {L : List (Nat × Obj)}
variable {κ2 β : Type} {kenc2 : κ2 → Value} {vf : β → Value} {beq2 : κ2 → κ2 → Bool} {kt2 : TypeId}
theorem Hd {i : Value → World → Prop} {Y R R2 : List (Nat × Obj)} {t e : TypeId} {m x y : Operand} {b : Value} {n : List (κ × Value)} {l j : List (κ × γ)} {k : κ} {u : Value} {z : γ} (K : ja P kt kenc beq) (s : P.underlying t = some (.map kt e)) (a : ST dd F w W μ (R ++ (R2 ++ Y))) (h : fl kenc Q b n l R) (hm : aS E m = b) (v : aS E x = kenc k) (A : aS E y = u) (r : Q u z R2) (q : Az beq l k z = some j) (p : ∀ W' R', ST dd F w W' μ (R' ++ Y) → fl kenc Q b (gG beq n k u) j R' → i undef W') : fT P E ⟨d, .mapUpdate t m x y, ty, pos, af, g⟩ W i :=
  Hk [] K s a h hm v A r q p
end
section
variable {dd : Bool}
variable {κ γ : Type} {Q : Value → γ → List (Nat × Obj) → Prop} {beq : κ → κ → Bool} {kenc : κ → Value}
variable {P : Program} {W : World} {kt : TypeId} {E : Nat → Value} {d : Option Nat} {ty : TypeId} {pos : String} {af : Array Edge} {g : Option (Nat × Bool)} {F : Nat → Prop} {w : World} {μ : bW} {L : List (Nat × Obj)}
theorem La {i : Value → World → Prop} {Y R R1 : List (Nat × Obj)} {t e : TypeId} {m x y : Operand} {b : Value} {j : List (κ × Value)} {l : List (κ × γ)} {k : κ} {u : Value} {z : γ} (K : ja P kt kenc beq) (q : P.underlying t = some (.map kt e)) (a : ST dd F w W μ (R ++ (R1 ++ Y))) (h : Gf beq kenc Q b j l k R) (hm : aS E m = b) (r : aS E x = kenc k) (s : aS E y = u) (p : Q u z R1) (n : ∀ W' R', ST dd F w W' μ (R' ++ Y) → fl kenc Q b (gG beq j k u) (gG beq l k z) R' → i undef W') : fT P E ⟨d, .mapUpdate t m x y, ty, pos, af, g⟩ W i :=
  LH [] K q a h hm r s p n
end
section
variable {dd : Bool}
variable {κ γ : Type} {Q : Value → γ → List (Nat × Obj) → Prop} {beq : κ → κ → Bool} {kenc : κ → Value}
variable {P : Program} {W : World} {kt : TypeId} {E : Nat → Value} {d : Option Nat} {ty : TypeId} {pos : String} {af : Array Edge} {g : Option (Nat × Bool)} {F : Nat → Prop} {w : World} {μ : bW} {L : List (Nat × Obj)}
theorem GQ {j : Value → World → Prop} {Y R : List (Nat × Obj)} {t e : TypeId} {m x : Operand} {i z : Value} {x0 : γ} {u : List (κ × Value)} {l : List (κ × γ)} {k : κ} (hk : ∀ {x y : κ}, beq x y = true ↔ x = y) (K : ja P kt kenc beq) (q : P.underlying t = some (.map kt e)) (s : ∀ w, (zeroValue e).run P w = .ok z w) (b : Q z x0 []) (a : ST dd F w W μ (R ++ Y)) (h : fl kenc Q i u l R) (hm : aS E m = i) (r : aS E x = kenc k) (p : ∀ W' v n R' R1, ST dd F w W' μ (R' ++ (R1 ++ Y)) → Q v ((dE beq l k).getD x0) R1 → DL beq kenc Q i l k n R' → j (.tuple #[v, .int .i64 (n : Nat)]) W') : fT P E ⟨d, .mapEntry t m x, ty, pos, af, g⟩ W j :=
  GX [] hk K q s b a h hm r p
end
section
variable {dd : Bool}
variable {κ γ : Type} {Q : Value → γ → List (Nat × Obj) → Prop} {beq : κ → κ → Bool} {kenc : κ → Value}
variable {P : Program} {W : World} {kt : TypeId} {E : Nat → Value} {d : Option Nat} {ty : TypeId} {pos : String} {af : Array Edge} {g : Option (Nat × Bool)} {F : Nat → Prop} {w : World} {μ : bW} {L : List (Nat × Obj)}
theorem Ep {j : Value → World → Prop} {Y R R1 : List (Nat × Obj)} {t e : TypeId} {m s y : Operand} {i u : Value} {z : γ} {l : List (κ × γ)} {k : κ} {n : Nat} (hk : ∀ {x y : κ}, beq x y = true ↔ x = y) (K : ja P kt kenc beq) (a : ST dd F w W μ (R ++ (R1 ++ Y))) (h : DL beq kenc Q i l k n R) (hm : aS E m = i) (r : aS E s = .int .i64 (n : Nat)) (v : aS E y = u) (q : Q u z R1) (p : ∀ W' b R', ST dd F w W' μ (R' ++ Y) → fl kenc Q i b (gG beq l k z) R' → j undef W') : fT P E ⟨d, .entryStore t m s y, ty, pos, af, g⟩ W j :=
  EB (e := e) [] hk K a h hm r v q p
end
section
variable {dd : Bool}
variable {α : Type} {e : TypeId} {enc : α → List Value} {k : Nat} {v : Value} {l : List α} {R : List (Nat × Obj)}
variable {P : Program} {W : World} {E : Nat → Value} {d : Option Nat} {ty : TypeId} {pos : String} {af : Array Edge} {g : Option (Nat × Bool)} {F : Nat → Prop} {w : World} {μ : bW} {L : List (Nat × Obj)}
theorem E9 {K : Value → World → Prop} {t : TypeId} {a : Nat} {z vs : Value} {m r : List α} {Y : List (Nat × Obj)} {x y : Operand} {i : TypeInfo} (b : ST dd F w W μ (R ++ Y)) (hk : ∀ x, (enc x).length = k) (n : 0 < k) (h1 : ∀ x, ∀ u ∈ enc x, u.oneCell' = true) (J : P.underlying t = some (.slice e)) (G : P.info? e = some i) (O : i.zero = some z) (q : z.cells.size = k) (p : i.size = k) (j : i.bytes = a) (L : aS E x = v) (M : aS E y = vs) (A : jS e enc k v l R) (I : Sl (Pl enc) k (hp W) vs m) (D : eT a l m = some r) (h : ∀ W' s R', ST dd F w W' μ (R' ++ Y) → jS e enc k s r R' → K s W') : fT P E ⟨d, .call ⟨.builtin .append, #[x, y], #[t, t]⟩, ty, pos, af, g⟩ W K :=
  Fj [] b hk n h1 J G O q p j L M A I D h
end
end Go.Proofs.YtmlncblocfcmiaaGreat
namespace Go.Proofs.YtmlncblocfcmiaaGreat
open Go.RowKit
section
variable {P : Program} {n : Nat} {Q : ko} {E : Nat → Value} {W : World} {ops : Array Oper} {rest : List Oper}
variable {d j t : Nat} {want : Bool} {v : Value} {ins : Go.Op} {ty : TypeId} {pos : String} {af : Array Edge} {A : Value → Prop}
theorem V (b : et P E ⟨some d, ins, ty, pos, af, none⟩ W v W) (h : LW P n ops Q rest (gB E d v) W) (a : d < n := by decide) : LW P n ops Q (⟨some d, ins, ty, pos, af, none⟩ :: rest) E W := B6 (.inl rfl) rfl a b h
theorem VE (h : fT P E ⟨some d, ins, ty, pos, af, none⟩ W fun v W' => LW P n ops Q rest (gB E d v) W') (a : d < n := by decide) : LW P n ops Q (⟨some d, ins, ty, pos, af, none⟩ :: rest) E W := Lq (.inl rfl) rfl a h
theorem VO (h : fT P E ⟨none, ins, ty, pos, af, none⟩ W fun _ W' => LW P n ops Q rest E W') : LW P n ops Q (⟨none, ins, ty, pos, af, none⟩ :: rest) E W := LN (.inl rfl) rfl h
theorem VQ (b : ∃ p, A p ∧ ∀ W, et P E ⟨some d, ins, ty, pos, af, none⟩ W p W) (h : ∀ p, A p → LW P n ops Q rest (gB E d p) W) (a : d < n := by decide) : LW P n ops Q (⟨some d, ins, ty, pos, af, none⟩ :: rest) E W := Kz (.inl rfl) rfl a b h
theorem Vg (b : (ops[j]?).bind (·.dst) = some t) (a : E t = .bool want) (i : et P E ⟨some d, ins, ty, pos, af, some (j, want)⟩ W v W) (h : LW P n ops Q rest (gB E d v) W) (k : t < n := by decide) (g : d < n := by decide) : LW P n ops Q (⟨some d, ins, ty, pos, af, some (j, want)⟩ :: rest) E W := B6 (.inr ⟨j, want, t, rfl, b, k, a⟩) rfl g i h
theorem HG (b : (ops[j]?).bind (·.dst) = some t) (a : E t = .bool want) (h : fT P E ⟨some d, ins, ty, pos, af, some (j, want)⟩ W fun v W' => LW P n ops Q rest (gB E d v) W') (i : t < n := by decide) (g : d < n := by decide) : LW P n ops Q (⟨some d, ins, ty, pos, af, some (j, want)⟩ :: rest) E W := Lq (.inr ⟨j, want, t, rfl, b, i, a⟩) rfl g h
theorem M7 (b : (ops[j]?).bind (·.dst) = some t) (a : E t = .bool want) (i : ∃ p, A p ∧ ∀ W, et P E ⟨some d, ins, ty, pos, af, some (j, want)⟩ W p W) (h : ∀ p, A p → LW P n ops Q rest (gB E d p) W) (k : t < n := by decide) (g : d < n := by decide) : LW P n ops Q (⟨some d, ins, ty, pos, af, some (j, want)⟩ :: rest) E W := Kz (.inr ⟨j, want, t, rfl, b, k, a⟩) rfl g i h
theorem Vn (b : (ops[j]?).bind (·.dst) = some t) (a : E t = .bool (!want)) (h : LW P n ops Q rest (gB E d undef) W) (i : t < n := by decide) (g : d < n := by decide) : LW P n ops Q (⟨some d, ins, ty, pos, af, some (j, want)⟩ :: rest) E W := LV rfl g rfl b i a h
theorem Vu (b : (ops[j]?).bind (·.dst) = some t) (a : E t = undef) (h : LW P n ops Q rest (gB E d undef) W) (i : t < n := by decide) (g : d < n := by decide) : LW P n ops Q (⟨some d, ins, ty, pos, af, some (j, want)⟩ :: rest) E W := KO rfl g rfl b i a h
end
section
variable {P : Program} {n : Nat} {Q : ko} {E : Nat → Value} {W : World} {ops : Array Oper} {S : Array Bool → World → Prop} {fuel : Nat} {listed : Array Bool} {μ : bW} {B : List (Nat × Obj)}
variable {d j t : Nat} {want : Bool} {v : Value} {ins : Go.Op} {ty : TypeId} {pos : String} {af : Array Edge} {A : Value → Prop}
theorem X (i : Nat) (b : ops[i]? = some ⟨some d, ins, ty, pos, af, none⟩) (a : S (listed.setIfInBounds i true) W) (j : ∀ {W}, et P E ⟨some d, ins, ty, pos, af, none⟩ W v W) (h : PX P n ops Q S fuel (listed.setIfInBounds i true) (gB E d v) W) (hk : vx ops listed i = true := by kernel_rfl) (hm : ∀ l w, S (l.setIfInBounds i true) w → S l w := by exact fun _ _ h => h) (g : d < n := by decide) : PX P n ops Q S (fuel + 1) listed E W := cY i b hk (.inl rfl) rfl g hm a (fun _ _ _ _ => j) h
theorem XH (i : Nat) (b : ops[i]? = some ⟨some d, ins, ty, pos, af, none⟩) (a : gf μ B W) (j : ∀ W, gf μ B W → et P E ⟨some d, ins, ty, pos, af, none⟩ W v W) (h : PX P n ops Q (fun _ W => gf μ B W) fuel (listed.setIfInBounds i true) (gB E d v) W) (hk : vx ops listed i = true := by kernel_rfl) (g : d < n := by decide) : PX P n ops Q (fun _ W => gf μ B W) (fuel + 1) listed E W := cY i b hk (.inl rfl) rfl g (fun _ _ h => h) a (fun _ W _ h => j W h) h
theorem XQ (i : Nat) (b : ops[i]? = some ⟨some d, ins, ty, pos, af, none⟩) (a : S (listed.setIfInBounds i true) W) (j : ∃ p, A p ∧ ∀ W, et P E ⟨some d, ins, ty, pos, af, none⟩ W p W) (h : ∀ p, A p → PX P n ops Q S fuel (listed.setIfInBounds i true) (gB E d p) W) (hk : vx ops listed i = true := by kernel_rfl) (hm : ∀ l w, S (l.setIfInBounds i true) w → S l w := by exact fun _ _ h => h) (g : d < n := by decide) : PX P n ops Q S (fuel + 1) listed E W := mB i b hk (.inl rfl) rfl g hm a j h
theorem XE (i : Nat) (a : ops[i]? = some ⟨some d, ins, ty, pos, af, none⟩) (h : fT P E ⟨some d, ins, ty, pos, af, none⟩ W fun v W' => S (listed.setIfInBounds i true) W' ∧ PX P n ops Q S fuel (listed.setIfInBounds i true) (gB E d v) W') (g : Region.ready .any ops listed = [i] := by kernel_rfl) (b : d < n := by decide) : PX P n ops Q S (fuel + 1) listed E W := LD i a g (.inl rfl) rfl b h
theorem XO (i : Nat) (a : ops[i]? = some ⟨none, ins, ty, pos, af, none⟩) (h : fT P E ⟨none, ins, ty, pos, af, none⟩ W fun _ W' => S (listed.setIfInBounds i true) W' ∧ PX P n ops Q S fuel (listed.setIfInBounds i true) E W') (b : Region.ready .any ops listed = [i] := by kernel_rfl) : PX P n ops Q S (fuel + 1) listed E W := Mj i a b (.inl rfl) rfl h
theorem Xg (i : Nat) (g : ops[i]? = some ⟨some d, ins, ty, pos, af, some (j, want)⟩) (k : (ops[j]?).bind (·.dst) = some t) (a : E t = .bool want) (b : S (listed.setIfInBounds i true) W) (q : ∀ {W}, et P E ⟨some d, ins, ty, pos, af, some (j, want)⟩ W v W) (h : PX P n ops Q S fuel (listed.setIfInBounds i true) (gB E d v) W) (hk : vx ops listed i = true := by kernel_rfl) (hm : ∀ l w, S (l.setIfInBounds i true) w → S l w := by exact fun _ _ h => h) (p : t < n := by decide) (m : d < n := by decide) : PX P n ops Q S (fuel + 1) listed E W := cY i g hk (.inr ⟨j, want, t, rfl, k, p, a⟩) rfl m hm b (fun _ _ _ _ => q) h
theorem ou (i : Nat) (g : ops[i]? = some ⟨some d, ins, ty, pos, af, some (j, want)⟩) (k : (ops[j]?).bind (·.dst) = some t) (a : E t = .bool want) (b : gf μ B W) (p : ∀ W, gf μ B W → et P E ⟨some d, ins, ty, pos, af, some (j, want)⟩ W v W) (h : PX P n ops Q (fun _ W => gf μ B W) fuel (listed.setIfInBounds i true) (gB E d v) W) (hk : vx ops listed i = true := by kernel_rfl) (m : t < n := by decide) (l : d < n := by decide) : PX P n ops Q (fun _ W => gf μ B W) (fuel + 1) listed E W := cY i g hk (.inr ⟨j, want, t, rfl, k, m, a⟩) rfl l (fun _ _ h => h) b (fun _ W _ h => p W h) h
theorem zZ (i : Nat) (b : ops[i]? = some ⟨some d, ins, ty, pos, af, some (j, want)⟩) (g : (ops[j]?).bind (·.dst) = some t) (a : E t = .bool want) (h : fT P E ⟨some d, ins, ty, pos, af, some (j, want)⟩ W fun v W' => S (listed.setIfInBounds i true) W' ∧ PX P n ops Q S fuel (listed.setIfInBounds i true) (gB E d v) W') (l : Region.ready .any ops listed = [i] := by kernel_rfl) (m : t < n := by decide) (k : d < n := by decide) : PX P n ops Q S (fuel + 1) listed E W := LD i b l (.inr ⟨j, want, t, rfl, g, m, a⟩) rfl k h
theorem Xn (i : Nat) (g : ops[i]? = some ⟨some d, ins, ty, pos, af, some (j, want)⟩) (k : (ops[j]?).bind (·.dst) = some t) (a : E t = .bool (!want)) (b : S (listed.setIfInBounds i true) W) (h : PX P n ops Q S fuel (listed.setIfInBounds i true) (gB E d undef) W) (hk : vx ops listed i = true := by kernel_rfl) (hm : ∀ l w, S (l.setIfInBounds i true) w → S l w := by exact fun _ _ h => h) (p : t < n := by decide) (m : d < n := by decide) : PX P n ops Q S (fuel + 1) listed E W := Mg i g hk rfl k p a rfl m hm b h
theorem Xu (i : Nat) (g : ops[i]? = some ⟨some d, ins, ty, pos, af, some (j, want)⟩) (k : (ops[j]?).bind (·.dst) = some t) (a : E t = undef) (b : S (listed.setIfInBounds i true) W) (h : PX P n ops Q S fuel (listed.setIfInBounds i true) (gB E d undef) W) (hk : vx ops listed i = true := by kernel_rfl) (hm : ∀ l w, S (l.setIfInBounds i true) w → S l w := by exact fun _ _ h => h) (p : t < n := by decide) (m : d < n := by decide) : PX P n ops Q S (fuel + 1) listed E W := KV i g hk rfl k p a rfl m hm b h
end
end Go.Proofs.YtmlncblocfcmiaaGreat
namespace Go.Proofs.YtmlncblocfcmiaaGreat
open Go.RowKit
section
variable {α β γ : Type}
inductive iY (Q : α → β → Prop) : List α → List β → Prop
  | nil : iY Q [] []
  | cons {a : α} {b : β} {l : List α} {m : List β} : Q a b → iY Q l m → iY Q (a :: l) (b :: m)
namespace iY
variable {Q Q' : α → β → Prop}
theorem length {l : List α} {m : List β} (h : iY Q l m) : l.length = m.length := by
  induction h with
  | nil => rfl
  | cons _ _ ih => simp [ih]
theorem imp {l : List α} {m : List β} (h : iY Q l m) (d : ∀ a b, Q a b → Q' a b) : iY Q' l m := by
  induction h with
  | nil => exact .nil
  | cons h1 _ ih => exact .cons (d _ _ h1) ih
theorem get {l : List α} {m : List β} (h : iY Q l m) : ∀ {i : Nat} {b : β}, m[i]? = some b → ∃ a, l[i]? = some a ∧ Q a b := by
  induction h with
  | nil => intro i b d; simp at d
  | cons h1 _ ih =>
    intro i b d
    cases i with
    | zero => simp at d; subst d; exact ⟨_, rfl, h1⟩
    | succ i => simpa using ih (by simpa using d)
theorem append {l a : List α} {m b : List β} (h : iY Q l m) (d : iY Q a b) : iY Q (l ++ a) (m ++ b) := by
  induction h with
  | nil => exact d
  | cons h1 _ ih => exact .cons h1 ih
theorem set {l : List α} {m : List β} (h : iY Q l m) {a : α} {b : β} (g : Q a b) : ∀ i : Nat, iY Q (l.set i a) (m.set i b) := by
  induction h with
  | nil => intro i; exact .nil
  | cons h1 d ih =>
    intro i
    cases i with
    | zero => exact .cons g d
    | succ i => exact .cons h1 (ih i)
theorem take {l : List α} {m : List β} (h : iY Q l m) : ∀ i : Nat, iY Q (l.take i) (m.take i) := by
  induction h with
  | nil => intro i; simp; exact .nil
  | cons h1 _ ih =>
    intro i
    cases i with
    | zero => exact .nil
    | succ i => exact .cons h1 (ih i)
theorem drop {l : List α} {m : List β} (h : iY Q l m) : ∀ i : Nat, iY Q (l.drop i) (m.drop i) := by
  induction h with
  | nil => intro i; simp; exact .nil
  | cons h1 a ih =>
    intro i
    cases i with
    | zero => exact .cons h1 a
    | succ i => exact ih i
end iY
theorem vZ {P : Nat → β → α → Prop} : ∀ {m : List β} (o : Nat), (∀ (i : Nat) (b : β), m[i]? = some b → ∃ a, P (o + i) b a) → ∃ l : List α, l.length = m.length ∧ ∀ (i : Nat) (b : β), m[i]? = some b → ∃ a, l[i]? = some a ∧ P (o + i) b a
  | [], _, _ => ⟨[], rfl, fun i b h => by simp at h⟩
  | b :: m, o, h => by
    obtain ⟨a, ha⟩ := h 0 b rfl
    obtain ⟨l, h1, g⟩ := vZ (m := m) (o + 1) (fun i b j => by
      obtain ⟨a, ha⟩ := h (i + 1) b (by simpa using j)
      exact ⟨a, by rw [show o + 1 + i = o + (i + 1) by omega]; exact ha⟩)
    refine ⟨a :: l, by simp [h1], fun i c d => ?_⟩
    cases i with
    | zero => simp at d; subst d; exact ⟨a, rfl, ha⟩
    | succ i =>
      obtain ⟨x, k, hp⟩ := g i c (by simpa using d)
      exact ⟨x, by simpa using k, by rw [show o + (i + 1) = o + 1 + i by omega]; exact hp⟩
theorem iY.Hp {Q : α → β → Prop} : ∀ {l : List α} {m : List β}, l.length = m.length → (∀ (i : Nat) (a : α) (b : β), l[i]? = some a → m[i]? = some b → Q a b) → iY Q l m
  | [], [], _, _ => .nil
  | [], _ :: _, h, _ => by cases h
  | _ :: _, [], h, _ => by cases h
  | a :: l, b :: m, h, d => .cons (d 0 a b rfl rfl) (iY.Hp (by simpa using h) (fun i x y g j => d (i + 1) x y (by simpa using g) (by simpa using j)))
end
structure Deep {β : Type} (R : jq β) (k : Nat) : Prop where
  mono : DP R
  len : ∀ {μ ys x}, R μ ys x → ys.length = k
  one : ∀ {μ ys x}, R μ ys x → ∀ u ∈ ys, u.oneCell' = true
abbrev qC (k : Nat) := {ys : List Value // ys.length = k ∧ ∀ u ∈ ys, u.oneCell' = true}
def oK {k : Nat} (c : qC k) : List Value := c.1
theorem rW {k : Nat} (x : qC k) : (oK x).length = k := x.2.1
theorem II {k : Nat} (x : qC k) : ∀ u ∈ oK x, u.oneCell' = true := x.2.2
theorem Sl.uB {α : Type} {R : jq α} {k : Nat} {μ : bW} {v : Value} {l : List α} (h : Sl R k μ v l) : v.oneCell' = true := by
  obtain ⟨A, c, rfl, _⟩ := h; rfl
section
variable {β : Type} {Rl : jq β} {k : Nat} {μ μ' : bW} {v : Value} {l : List β}
def Deep.cell (a : Deep Rl k) {ys : List Value} {x : β} (h : Rl μ ys x) : qC k := ⟨ys, a.len h, a.one h⟩
theorem Sl.raw (z : Deep Rl k) (h : Sl Rl k μ v l) : ∃ cl : List (qC k), Sl (Pl oK) k μ v cl ∧ iY (fun c x => Rl μ c.1 x) cl l := by
  obtain ⟨A, c, rfl, h1, s, u⟩ := h
  cases l with
  | nil => exact ⟨[], ⟨A, c, rfl, h1, s, fun h => absurd h (by simp)⟩, .nil⟩
  | cons x0 l =>
    obtain ⟨b, off, cs, T, fr, rfl, D, w⟩ := u (by simp)
    obtain ⟨cl, p, r⟩ := vZ (P := fun i x (c : qC k) => Rl μ c.1 x ∧ ∀ j y, c.1[j]? = some y → cs[off + i * k + j]? = some y) (m := x0 :: l) 0 (fun i x q => by
      obtain ⟨ys, _, d, g⟩ := w i x q
      exact ⟨z.cell d, d, by rw [Nat.zero_add]; exact g⟩)
    refine ⟨cl, ⟨_, c, by rw [p], by omega, s, fun _ => ⟨b, off, cs, T, fr, rfl, D, fun i c n => ?_⟩⟩, iY.Hp p (fun i c x n q => ?_)⟩
    · have E : i < (x0 :: l).length := by rw [← p]; exact (List.getElem?_eq_some_iff.1 n).1
      obtain ⟨t, a, _, g⟩ := r i _ (List.getElem?_eq_getElem E)
      rw [n] at a; cases a
      exact ⟨c.1, c.2.1, rfl, by rw [Nat.zero_add] at g; exact g⟩
    · obtain ⟨t, a, d, _⟩ := r i x q
      rw [n] at a; cases a
      exact d
theorem Sl.Hg {cl : List (qC k)} (h : Sl (Pl oK) k μ v cl) (t : bO μ μ') (ha : iY (fun c x => Rl μ' c.1 x) cl l) : Sl Rl k μ' v l := by
  obtain ⟨A, c, rfl, h1, m, n⟩ := h
  have a := ha.length
  refine ⟨A, c, by rw [a], by omega, m, fun w => ?_⟩
  obtain ⟨b, off, cs, T, fr, rfl, q, p⟩ := n (by omega)
  refine ⟨b, off, cs, T, fr, rfl, t _ _ q, fun i x u => ?_⟩
  obtain ⟨c, r, s⟩ := ha.get u
  obtain ⟨ys, d, g, j⟩ := p i c r
  cases g
  exact ⟨oK c, d, s, j⟩
def qE (Rl : jq β) (k : Nat) (μ : bW) (W : World) (v : Value) (l : List β) : Prop := ∃ cl : List (qC k), Sl (Pl oK) k (hp W) v cl ∧ iY (fun c x => Rl μ c.1 x) cl l
theorem qE.sl (b : Deep Rl k) {W : World} (h : Sl Rl k μ v l) (d : bO μ (hp W)) : qE Rl k μ W v l := by
  obtain ⟨cl, h1, a⟩ := h.raw b
  exact ⟨cl, h1.mono (Pl.mono _) d, a⟩
theorem Sl.IF {b m : Nat} {cl : List (qC k)} {cs : Array Value} {e : TypeId} (hm : cl.length = m) (a : m ≤ maxLen) (g : cs.toList = (cl.map oK).flatten) (d : μ b = some (.cells cs e (0, 0))) : Sl (Pl oK) k μ (.slice (some ⟨b, 0, none⟩) m m) cl := by
  subst hm
  refine ⟨_, _, rfl, Nat.le_refl _, a, fun _ => ⟨b, 0, _, _, _, rfl, d, fun i x h => ⟨oK x, rW x, rfl, fun j y l => ?_⟩⟩⟩
  have := qb rW cl i x h j y l
  rw [← g] at this
  simpa using this
inductive xt (Rl : jq β) (k : Nat) (μ : bW) : List Value → List β → Prop
  | nil : xt Rl k μ [] []
  | cons {ys zs : List Value} {x : β} {l : List β} : Rl μ ys x → xt Rl k μ zs l → xt Rl k μ (ys ++ zs) (x :: l)
theorem xt.cells (b : Deep Rl k) {ys : List Value} (h : xt Rl k μ ys l) : ∃ cl : List (qC k), (cl.map oK).flatten = ys ∧ iY (fun c x => Rl μ c.1 x) cl l := by
  induction h with
  | nil => exact ⟨[], rfl, .nil⟩
  | cons h1 _ ih =>
    obtain ⟨cl, e, a⟩ := ih
    exact ⟨b.cell h1 :: cl, by rw [List.map_cons, List.flatten_cons, e]; rfl, .cons h1 a⟩
theorem qE.lit (g : Deep Rl k) {W : World} {b m : Nat} {ys : List Value} {e : TypeId} (h : xt Rl k μ ys l) (hm : l.length = m) (i : m ≤ maxLen) (j : W.heap[b]? = some (.cells ys.toArray e (0, 0))) : qE Rl k μ W (.slice (some ⟨b, 0, none⟩) m m) l := by
  obtain ⟨cl, d, a⟩ := h.cells g
  exact ⟨cl, Sl.IF (by rw [a.length]; exact hm) i d.symm j, a⟩
theorem Sl.imp {R R' : jq β} (h : Sl R k μ v l) (q : ∀ ys x, R μ ys x → R' μ ys x) : Sl R' k μ v l := by
  obtain ⟨A, c, rfl, h1, a, d⟩ := h
  refine ⟨A, c, rfl, h1, a, fun r => ?_⟩
  obtain ⟨b, off, cs, T, fr, rfl, p, g⟩ := d r
  exact ⟨b, off, cs, T, fr, rfl, p, fun i x s => let ⟨ys, j, m, n⟩ := g i x s; ⟨ys, j, q _ _ m, n⟩⟩
theorem yX : ∀ (l : List Nat) (n : Nat), n ∈ l → n ≤ l.foldr max 0
  | [], n, h => by cases h
  | a :: l, n, h => by
    rcases List.mem_cons.1 h with rfl | h
    · exact Nat.le_max_left _ _
    · exact Nat.le_trans (yX l n h) (Nat.le_max_right _ _)
theorem Sl.L6 {R : jq β} {a : Nat → jq β} (h : Sl R k μ v l) (D : ∀ ys x, R μ ys x → ∃ n, a n μ ys x) (up : ∀ n m ys x, n ≤ m → a n μ ys x → a m μ ys x) : ∃ n, Sl (a n) k μ v l := by
  obtain ⟨A, c, rfl, h1, s, w⟩ := h
  by_cases t : 0 < l.length
  · obtain ⟨b, off, cs, T, fr, rfl, E, z⟩ := w t
    obtain ⟨G, I, u⟩ := vZ (P := fun i x (p : Nat × List Value) => p.2.length = k ∧ a p.1 μ p.2 x ∧ ∀ j y, p.2[j]? = some y → cs[off + i * k + j]? = some y) (m := l) 0 (fun i x r => by
      obtain ⟨ys, g, q, d⟩ := z i x r
      obtain ⟨n, F⟩ := D _ _ q
      exact ⟨(n, ys), g, F, by rw [Nat.zero_add]; exact d⟩)
    refine ⟨(G.map (·.1)).foldr max 0, _, c, rfl, h1, s, fun _ => ⟨b, off, cs, T, fr, rfl, E, fun i x r => ?_⟩⟩
    obtain ⟨p, hp, g, q, d⟩ := u i x r
    exact ⟨p.2, g, up _ _ _ _ (yX _ _ (List.mem_map.2 ⟨p, List.mem_of_getElem? hp, rfl⟩)) q, by rw [Nat.zero_add] at d; exact d⟩
  · exact ⟨0, A, c, rfl, h1, s, fun h => absurd h t⟩
def cL (e : TypeId) (Rl : jq β) (k : Nat) (μ : bW) (v : Value) (l : List β) (B : List (Nat × Obj)) : Prop := ∃ cl : List (qC k), bG e oK k v cl B ∧ iY (fun c x => Rl μ c.1 x) cl l
variable {e : TypeId} {B : List (Nat × Obj)}
theorem cL.mono (b : Deep Rl k) (h : cL e Rl k μ v l B) (d : bO μ μ') : cL e Rl k μ' v l B := by
  obtain ⟨cl, h1, a⟩ := h
  exact ⟨cl, h1, a.imp (fun _ _ h => b.mono _ _ _ _ d h)⟩
theorem cL.nil (e : TypeId) (Rl : jq β) (k : Nat) (μ : bW) : cL e Rl k μ (.slice none 0 0) [] [] := ⟨[], bG.nil _ _ _, .nil⟩
theorem cL.lit (g : Deep Rl k) {b m : Nat} {ys : List Value} (h : xt Rl k μ ys l) (hm : l.length = m) (i : m ≤ maxLen) (j : ys.length = m * k) : cL e Rl k μ (.slice (some ⟨b, 0, none⟩) m m) l [(b, .cells ys.toArray e (0, 0))] := by
  obtain ⟨cl, d, a⟩ := h.cells g
  exact ⟨cl, bG.lit (by rw [a.length]; exact hm) i d.symm (by simpa using j), a⟩
theorem cL.form (h : cL e Rl k μ v l B) : ∃ A c, v = .slice A l.length c := by
  obtain ⟨cl, h1, a⟩ := h
  rw [← a.length]; exact h1.form
theorem cL.len (h : cL e Rl k μ v l B) : l.length ≤ 9223372036854775807 := by
  obtain ⟨cl, h1, a⟩ := h
  rw [← a.length]; exact h1.len
theorem cL.nd (h : cL e Rl k μ v l B) : (B.map (·.1)).Nodup := let ⟨_, h1, _⟩ := h; h1.nd
theorem cL.isNil {n c : Nat} (h : cL e Rl k μ (.slice none n c) l B) : l = [] := by
  obtain ⟨cl, h1, a⟩ := h
  have := a.length
  rw [h1.isNil] at this
  exact List.eq_nil_of_length_eq_zero this.symm
theorem cL.sl (h : cL e Rl k μ v l B) (d : Deep Rl k) (g : bO μ μ') (hm : ∀ b o, (b, o) ∈ B → μ' b = some o) : Sl Rl k μ' v l := by
  obtain ⟨cl, h1, a⟩ := h
  exact Sl.Hg (h1.sl rW hm) (bO.refl _) (a.imp (fun _ _ h => d.mono _ _ _ _ g h))
end
section
variable {β : Type} {Rl : jq β} {k : Nat} {μ : bW} {v : Value} {l : List β} {e : TypeId} {B : List (Nat × Obj)}
variable {dd : Bool} {F : Nat → Prop} {w W : World} {L : List (Nat × Obj)}
theorem cL.ML (h : cL e Rl k μ v l B) (b : Deep Rl k) (a : ST dd F w W μ L) (d : ∀ p, p ∈ B → p ∈ L) : Sl Rl k (hp W) v l := h.sl b a.aP (fun _ _ g => a.at_ (d _ g))
theorem qE.row (h : cL e Rl k μ v l B) (a : ST dd F w W μ L) (d : ∀ p, p ∈ B → p ∈ L) : qE Rl k μ W v l := let ⟨cl, h1, b⟩ := h; ⟨cl, h1.ML rW a d, b⟩
theorem ST.ms {Y : List (Nat × Obj)} (g : Deep Rl k) (a : ST dd F w W μ (B ++ Y)) (h : cL e Rl k μ v l B) : ∃ μ', ST dd F w W μ' Y ∧ bO μ μ' ∧ Lo F w μ μ' ∧ Sl Rl k μ' v l := by
  obtain ⟨cl, h1, d⟩ := h
  obtain ⟨μ', b, a2, a4, a3⟩ := ST.I3 a h1 rW
  exact ⟨μ', b, a2, a4, Sl.Hg a3 (bO.refl _) (d.imp (fun _ _ h => g.mono _ _ _ _ a2 h))⟩
variable {P : Program} {E : Nat → Value} {d : Option Nat} {ty : TypeId} {pos : String} {af : Array Edge} {g : Option (Nat × Bool)}
theorem ei {t e' : TypeId} {x a : Operand} {z : IntKind} {i : Int} {x0 : β} {A : List Value → Prop} (r : ∀ {ys}, Rl μ ys x0 → A ys) (u : P.underlying t = some (.slice e')) (he : ∀ w, (sizeOf e').run P w = .ok k w) (y : aS E x = v) (n : aS E a = .int z i) (s : Sl Rl k μ v l) (b : 0 ≤ i) (q : l[i.toNat]? = some x0) :
    ∃ p, (∃ ys, A ys ∧ At μ p ys) ∧ ∀ W, et P E ⟨d, .indexAddr t x a, ty, pos, af, g⟩ W p W := by
  obtain ⟨p, ys, _, h, j, m⟩ := FW (d := d) (ty := ty) (pos := pos) (af := af) (g := g) u he y n s b q
  exact ⟨p, ⟨ys, r h, j⟩, m⟩
theorem lN {x : Operand} {t e' : TypeId} (a : P.underlying t = some (.slice e')) (b : aS E x = v) (h : cL e Rl k μ v l B) : et P E ⟨d, .call ⟨.builtin .len, #[x], #[t]⟩, ty, pos, af, g⟩ W (.int .i64 l.length) W := by
  obtain ⟨A, c, rfl⟩ := h.form
  exact uF a b
theorem cX {t e' : TypeId} {x j : Operand} {F : IntKind} {i : Int} {x0 : β} {A : List Value → Prop} (u : ∀ {ys}, Rl μ ys x0 → A ys) (z : P.underlying t = some (.slice e')) (he : ∀ w, (sizeOf e').run P w = .ok k w) (D : aS E x = v) (r : aS E j = .int F i) (h : cL e Rl k μ v l B) (m : 0 ≤ i) (s : l[i.toNat]? = some x0) :
    ∃ p, (∃ ys, A ys ∧ At (uj B) p ys ∧ uu B k p i.toNat) ∧ ∀ W, et P E ⟨d, .indexAddr t x j, ty, pos, af, g⟩ W p W := by
  obtain ⟨cl, h1, n⟩ := h
  obtain ⟨c, b, y⟩ := n.get s
  obtain ⟨p, a, q⟩ := iZ (d := d) (ty := ty) (pos := pos) (af := af) (g := g) z he D r h1 m b
  exact ⟨p, ⟨c.1, u y, a.at h1 rW b, a⟩, q⟩
theorem I2 {α g : Type} {a : Nat} {l m r : List α} {b d : List g} (h : eT a l m = some r) (h1 : b.length = l.length) (i : d.length = m.length) : eT a b d = some (b ++ d) ∧ r = l ++ m := by
  unfold eT at h ⊢
  rw [h1, i]
  split at h
  · rename_i j; cases h; rw [if_pos j]; exact ⟨rfl, rfl⟩
  · cases h
theorem iP {K : Value → World → Prop} {t : TypeId} {a : Nat} {z vs : Value} {m r : List β} {Y : List (Nat × Obj)} {x y : Operand} {i : TypeInfo} (hD : Deep Rl k) (j : ST dd F w W μ (B ++ Y)) (q : 0 < k) (Q : P.underlying t = some (.slice e)) (M : P.info? e = some i) (U : i.zero = some z) (u : z.cells.size = k) (s : i.size = k) (p : i.bytes = a) (R : aS E x = v) (T : aS E y = vs) (J : cL e Rl k μ v l B) (O : qE Rl k μ W vs m) (L : eT a l m = some r) (h : ∀ W' b R', ST dd F w W' μ (R' ++ Y) → cL e Rl k μ b r R' → K b W') : fT P E ⟨d, .call ⟨.builtin .append, #[x, y], #[t, t]⟩, ty, pos, af, g⟩ W K := by
  obtain ⟨cl, h1, A⟩ := J
  obtain ⟨Z, I, D⟩ := O
  obtain ⟨n, rfl⟩ := I2 L A.length D.length
  exact ga j rW q II Q M U u s p R T h1 I n (fun W' b R' G a2 => h W' b R' G ⟨_, a2, A.append D⟩)
theorem ke {K : Value → World → Prop} {Y : List (Nat × Obj)} {t : TypeId} {x y : Operand} {p : Value} {i : Nat} {x0 x1 : β} {ys : List Value} (n : Deep Rl k) (a : ST dd F w W μ (B ++ Y)) (h : cL e Rl k μ v l B) (z : aS E x = p) (A : aS E y = .agg ys.toArray) (j : Rl μ ys x1) (hp : uu B k p i) (u : l[i]? = some x0) (r : ∀ w, (sizeOf t).run P w = .ok k w) (q : ∀ W' R', ST dd F w W' μ (R' ++ Y) → cL e Rl k μ v (l.set i x1) R' → K undef W') : fT P E ⟨d, .store t x y, ty, pos, af, g⟩ W K := by
  obtain ⟨cl, h1, b⟩ := h
  obtain ⟨c, s, _⟩ := b.get u
  exact wV (x1 := n.cell j) a h1 rW II z A rfl hp s r (fun W' R' m a2 => q W' R' m ⟨_, a2, b.set j i⟩)
end
end Go.Proofs.YtmlncblocfcmiaaGreat
namespace Go.Proofs.YtmlncblocfcmiaaGreat
open Go.RowKit
def dR (dd : Bool) (P : Program) (f : FuncId) (args : List Value) (w : World) (μ0 : bW) (L0 : List (Nat × Obj)) (K : Value → List (Nat × Obj) → bW → Prop) : Prop :=
  Calls P f args.toArray w fun e a => ∃ v L1 μ1, e = .returned v ∧ ny dd L0 L1 w a ∧ bO μ0 μ1 ∧ Lo (keys L0) w μ0 μ1 ∧ bO μ1 (nP a L1) ∧ K v L1 μ1
theorem dR.dK {dd : Bool} {P : Program} {f : FuncId} {args : List Value} {w : World} {μ0 : bW} {L0 : List (Nat × Obj)} {K : Value → List (Nat × Obj) → bW → Prop} (h : dR true P f args w μ0 L0 K) : dR dd P f args w μ0 L0 K :=
  Calls.mono h fun _ _ ⟨v, L1, μ1, h1, a, b⟩ => ⟨v, L1, μ1, h1, a.dK, b⟩
section
variable {dd : Bool} {F : Nat → Prop} {w W W' : World} {μ μ1 : bW} {L L0 L1 L2 : List (Nat × Obj)}
theorem ST.Me (h : ST dd F w W μ (L0 ++ L)) (i : ny dd L0 L1 W W') (j : Lo (keys L0) W μ μ1) (g : bO μ1 (nP W' L1)) : ST dd F w W' μ1 (L1 ++ L) := by
  have h1 := h.back i
  refine ⟨h1.os, h1.tape, h1.output, h1.drawn, h1.size, h1.eP, fun b o hm => ?_, fun b o a => ?_, h1.nd⟩
  · have := g b o hm
    unfold nP at this
    split at this
    · cases this
    · exact this
  · obtain ⟨k, m, l⟩ := h1.box b o a
    refine ⟨k, ?_, l⟩
    rcases List.mem_append.1 a with a | a
    · cases hm : μ1 b with
      | none => rfl
      | some x =>
        have := g b x hm
        unfold nP at this
        rw [if_pos ⟨o, a⟩] at this
        cases this
    · have d := h.box b o (List.mem_append_right _ a)
      rw [j b (gD d.1) (zm h.nd a)]
      exact d.2.1
variable {P : Program} {E : Nat → Value} {d : Option Nat} {ty : TypeId} {pos : String} {af : Array Edge} {g : Option (Nat × Bool)}
theorem AR {K : Value → World → Prop} {K' : Value → List (Nat × Obj) → bW → Prop} {f : FuncId} {fv : Operand} {ax : Array Operand} {ats : Array TypeId} {caps : Array Value} {args : List Value} (L0 L2 : List (Nat × Obj)) (a : ST dd F w W μ L) (i : L.Perm (L0 ++ L2)) (u : aS E fv = .func (.func f) #[] caps) (he : ∀ args w, (callFunc f args).run P w = .ok (.enter f args) w) (ha : ax.map (aS E) ++ (#[] : Array Value) = args.toArray) (t : yT L0 W → (L0.map (·.1)).Nodup → bO μ (nP W L0) → (∀ b o, (b, o) ∈ L2 → nP W L0 b = some o) → dR dd P f (args ++ caps.toList) W μ L0 K') (h : ∀ W' v μ' L1, ST dd F w W' μ' (L1 ++ L2) → bO μ μ' → Lo F w μ μ' → K' v L1 μ' → K v W') : fT P E ⟨d, .call ⟨.value fv, ax, ats⟩, ty, pos, af, g⟩ W K := by
  have j : ax.map (aS E) = args.toArray := by simpa using ha
  refine zr (args := (args ++ caps.toList).toArray) u he (by rw [j]; simp) (Calls.mono (t (a.held i) (a.KL i) (a.KP i) (a.Ft i)) (fun _ W' ⟨v, L1, μ1, h1, l, m, k, n, p⟩ => ⟨v, h1, h W' v μ1 L1 ((a.perm i).Me l k n) m (fun b s r => k b (Nat.lt_of_lt_of_le s a.size) (fun ⟨o, x⟩ => by
    rcases ((a.perm i).box b o (List.mem_append_left _ x)).2.2 with q | q
    · omega
    · exact r q)) p⟩))
end
end Go.Proofs.YtmlncblocfcmiaaGreat
namespace Go.Proofs.YtmlncblocfcmiaaGreat
open Go.RowKit
section
variable {P : Program} {E : Nat → Value} {W : World} {d : Option Nat} {ty : TypeId} {pos : String} {af : Array Edge} {g : Option (Nat × Bool)}
  {dd : Bool} {F : Nat → Prop} {w : World} {μ : bW} {L : List (Nat × Obj)}
def yS {α : Type} (a : Nat) (z : α) (n : Int) : Option (List α) := if 0 ≤ n ∧ (a : Int) * n ≤ 140737488355328 ∧ n ≤ (maxLen : Int) then some (List.replicate n.toNat z) else none
theorem B5 {α : Type} {enc : α → List Value} {k : Nat} (hk : ∀ x, (enc x).length = k) (a : 0 < k) (z : α) (n : Nat) : (madeCells (enc z).toArray (n * k)).toList = ((List.replicate n z).map enc).flatten := by
  apply List.ext_getElem
  · rw [jt hk, Array.length_toList, size_madeCells]; simp
  · intro i h1 h
    rw [Array.length_toList, size_madeCells] at h1
    have j : i / k < n := by rw [Nat.div_lt_iff_lt_mul a]; exact h1
    have d : i % k < (enc z).length := by rw [hk]; exact Nat.mod_lt _ a
    have b := qb hk (List.replicate n z) (i / k) z (by rw [List.getElem?_replicate, if_pos j]) (i % k) _ (List.getElem?_eq_getElem d)
    rw [show i / k * k + i % k = i by rw [Nat.mul_comm]; exact Nat.div_add_mod i k] at b
    rw [List.getElem?_eq_getElem h] at b
    have g := Option.some.inj b
    rw [g]
    simp only [madeCells, Array.getElem_toList, Array.getElem_map, Array.getElem_range, List.size_toArray, hk]
    rw [getElem!_pos _ _ (by simpa using d)]
    simp
theorem Ff {K : Value → World → Prop} {α : Type} {e t : TypeId} {enc : α → List Value} {k a : Nat} {b : Value} {n : Int} {l : IntKind} {z : α} {r : List α} {x y : Operand} {i : TypeInfo} (m : ST dd F w W μ L) (hk : ∀ x, (enc x).length = k) (s : 0 < k) (O : P.underlying t = some (.slice e)) (J : P.info? e = some i) (T : i.zero = some b) (u : i.size = k) (q : i.bytes = a) (I : b.cells = (enc z).toArray) (Q : aS E x = .int l n) (R : aS E y = .int l n) (j : yS a z n = some r) (h : ∀ W' v R', ST dd F w W' μ (R' ++ L) → bG e enc k v r R' → K v W') : fT P E ⟨d, .makeSlice t x y, ty, pos, af, g⟩ W K := by
  unfold yS at j
  split at j
  case isFalse => cases j
  rename_i p
  cases j
  obtain ⟨A, h1, D⟩ := p
  subst u; subst q
  have G : n.toNat ≤ maxLen := by omega
  have M := run_make (P := P) W t e i b O J T l l n n A (Int.le_refl _) (by omega) (by simp only [maxLen] at D; omega)
  refine .inl ⟨.slice (some ⟨W.heap.size, 0, none⟩) n.toNat n.toNat, W.alloc (.cells (madeCells b.cells (n.toNat * i.size)) e), ?_, h _ _ [(W.heap.size, .cells (madeCells b.cells (n.toNat * i.size)) e)] (m.alloc _) ?_⟩
  · show (do pure (.value (← Instr.makeSlice t (aS E x) (aS E y))) : Sem Next).run P W = _
    rw [Q, R]
    simp only [Sem.run_bind, M, Result.andThen_ok, Sem.run_pure]
  · exact bG.lit (by rw [List.length_replicate]) G (by rw [I]; exact B5 hk s z _) (by rw [size_madeCells])
end
theorem np.uB {κ γ : Type} {kenc : κ → Value} {Q : Value → γ → List (Nat × Obj) → Prop} {μ : bW} {v : Value} {l : List (κ × γ)} (h : np kenc Q μ v l) : v.oneCell' = true := by
  obtain ⟨a, R, h, _⟩ := h
  obtain ⟨m, rfl⟩ := h.form
  rfl
theorem pH.uB {κ β : Type} {kenc : κ → Value} {vf : β → Value} {μ : bW} {v : Value} {l : List (κ × β)} (h : pH kenc vf μ v l) : v.oneCell' = true := by
  obtain ⟨m, rfl⟩ := h.form
  rfl
end Go.Proofs.YtmlncblocfcmiaaGreat
