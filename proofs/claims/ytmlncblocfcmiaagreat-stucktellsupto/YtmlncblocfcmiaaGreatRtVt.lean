/- a part of a proof of StuckTells -/
import Derived.WalkKit
import Derived.WalkLawsBesides
import Derived.Maps.AppendAt
import Derived.OrdersHeld
import Derived.Laws.IdiomStrings
import Derived.Maps.RangeRun
import Derived.Lib.BytesEntry
import Derived.Lib.Bytealg
import Derived.Laws.Externs
import Derived.ChangeKeysEq
import Derived.Deep.AppendSrc
import Derived.Laws.MakeOwn
set_option linter.all false
namespace Go.Proofs.YtmlncblocfcmiaaGreat
open Go.RowKit
def gB (E : Nat → Value) (d : Nat) (v : Value) : Nat → Value := fun t => if t = d then v else E t
def aS (E : Nat → Value) : Operand → Value
  | .tmp t => E t
  | .const v => v
  | .global g => .pointer (some ⟨g, 0, none⟩)
  | .func f => .func (.func f) #[] #[]
def Ag (n : Nat) (a : Act) (E : Nat → Value) : Prop := a.tmps.size = n ∧ a.defers = [] ∧ ∀ t, a.tmps.getD t undef = E t
section
variable {n : Nat} {a : Act} {E : Nat → Value}
theorem Ag.eval (h : Ag n a E) : a.eval = aS E := by
  funext x
  cases x with
  | tmp t => exact h.2.2 t
  | const v => rfl
  | global g => rfl
  | func f => rfl
theorem Ag.put (h : Ag n a E) {d : Nat} (i : d < n) (v : Value) : Ag n (a.put (some d) v) (gB E d v) := by
  refine ⟨by simp [Act.put, h.1], h.2.1, fun t => ?_⟩
  have g := h.2.2 t
  simp only [Act.put, gB]
  by_cases b : t = d
  · subst b
    simp [h.1, i]
  · have : ¬ d = t := fun e => b e.symm
    rw [if_neg b, ← g]
    simp [Array.getD_eq_getD_getElem?, this]
theorem Ag.sR (h : Ag n a E) (v : Value) : Ag n (a.put none v) E := h
theorem Ag.yield (h : Ag n a E) {ops : Array Oper} {j t : Nat} {b : Bool} (g : (ops[j]?).bind (·.dst) = some t) (k : t < n) (l : E t = .bool b) : yielded ops a.tmps j = some b := by
  have d := h.2.2 t
  have i : a.tmps[t]? = some (E t) := by
    rw [← d]
    simp [Array.getD_eq_getD_getElem?, h.1, k]
  simp [yielded, g, i, l]
end
abbrev kj := Exit → (Nat → Value) → World → Prop
def lift (n : Nat) (Q : kj) : Exit → Act → World → Prop
  | .panic _, _, _ => False
  | .outgrown, _, _ => False
  | e, a, w => ∃ E, Ag n a E ∧ Q e E w
def CW (P : Program) (n : Nat) (c : Code) (Q : kj) (E : Nat → Value) (W : World) : Prop := ∀ a, Ag n a E → c.wp P (lift n Q) a W
def LW (P : Program) (n : Nat) (ops : Array Oper) (Q : kj) (l : List Oper) (E : Nat → Value) (W : World) : Prop := ∀ a, Ag n a E → wpList P ops (lift n Q) l a W
def jZ (K : (Nat → Value) → World → Prop) (Q : kj) : kj
  | .normal, E, W => K E W
  | e, E, W => Q e E W
def pT (id : Nat) (Q : kj) : kj
  | .exit j, E, W => if j = id then Q .normal E W else Q (.exit j) E W
  | e, E, W => Q e E W
section
variable {P : Program} {n : Nat} {Q : kj} {E : Nat → Value} {W : World} {c x y : Code} {ops : Array Oper} {rest : List Oper} {o : Oper}
theorem BU {Q' : kj} (h : CW P n c Q E W) (g : ∀ e E W, Q e E W → Q' e E W) : CW P n c Q' E W := fun a ha =>
  wp_mono (h a ha) (fun e _ _ h => by
    cases e with
    | panic c => exact h
    | outgrown => exact h
    | _ => obtain ⟨E', b, d⟩ := h; exact ⟨E', b, g _ _ _ d⟩)
theorem aW (h : CW P n x (jZ (fun E W => CW P n y Q E W) Q) E W) : CW P n (.seq x y) Q E W := fun a ha =>
  wp_seq (wp_mono (h a ha) (fun e d i h => by
    cases e with
    | normal => obtain ⟨E', b, g⟩ := h; exact g d b
    | _ => exact h))
theorem cZ (h : Q .normal E W) : CW P n .skip Q E W := fun _ ha => wp_skip ⟨E, ha, h⟩
theorem bH (h : Q .ret E W) : CW P n .ret Q E W := fun _ ha => wp_ret ⟨E, ha, h⟩
theorem fH {id : Nat} (h : Q (.exit id) E W) : CW P n (.exit id) Q E W := fun _ ha => wp_exit ⟨E, ha, h⟩
theorem dN {id : Nat} (h : CW P n c (pT id Q) E W) : CW P n (.block id c) Q E W := fun a ha =>
  wp_block (wp_mono (h a ha) (fun e k l h => by
    cases e with
    | exit j =>
      obtain ⟨E', d, g⟩ := h
      simp only [Exit.inBlock]
      simp only [pT] at g
      split at g
      · b i; rw [if_pos i]; exact ⟨E', d, g⟩
      · b i; rw [if_neg i]; exact ⟨E', d, g⟩
    | _ => exact h))
theorem Gm {co : Operand} {b : Bool} (d : aS E co = .bool b) (i : b = true → CW P n x Q E W) (g : b = false → CW P n y Q E W) : CW P n (.cond co x y) Q E W := fun a ha => by
  refine wp_cond_split (t := b) (by rw [ha.eval]; exact d) (fun h => i h a ha) (fun h => g h a ha)
theorem qi {co : Operand} (a : aS E co = .bool true) (h : CW P n x Q E W) : CW P n (.cond co x y) Q E W := Gm a (fun _ => h) (fun h => by cases h)
theorem lF {co : Operand} (a : aS E co = .bool false) (h : CW P n y Q E W) : CW P n (.cond co x y) Q E W := Gm a (fun h => by cases h) (fun _ => h)
theorem aU {id : Nat} {l : List Oper} (h : LW P n l.toArray Q l E W) : CW P n (.region id l.toArray false) Q E W := fun a ha => wp_region_lit (h a ha)
theorem bK (h : Q .normal E W) : LW P n ops Q [] E W := fun _ ha => wpList_nil ⟨E, ha, h⟩
theorem DB {P : Program} {c : Code} {Q : Exit → Act → World → Prop} {a : Act} {w : World} (I : Nat → Act → World → Prop) (m : Nat) (u : I m a w) (round : ∀ m a w, I m a w → c.wp P (Exit.then (fun q r => ∃ y, y < m ∧ I y q r) Q) a w) : (Code.loop c).wp P Q a w := by
  intro b k cs
  have key : ∀ m a w, I m a w → ∃ e q r, Q e q r ∧ Arrives P (lone (b.at a (.code c :: .inLoop c :: k)) cs w) b k cs e q r := by
    intro m
    induction m using Nat.strongRecOn with
    | _ m ih =>
      intro a w A
      obtain ⟨e, g, h, j, d⟩ := round m a w A b (.inLoop c :: k) cs
      cases e with
      | normal =>
        obtain ⟨y, z, n⟩ := j
        obtain ⟨t, s, v, p, i⟩ := ih y z g h n
        exact ⟨t, s, v, p, .of_steps (Steps.trans d (.one step_inLoop)) i⟩
      | exit id => exact ⟨_, g, h, j, .pass (x := .inLoop c) rfl (fun _ _ => .inl (by simp)) d⟩
      | goto l => exact ⟨_, g, h, j, .pass (x := .inLoop c) rfl (fun _ _ => .inl (by simp)) d⟩
      | ret => exact ⟨_, g, h, j, .pass (x := .inLoop c) rfl (fun _ _ => .inl (by simp)) d⟩
      | panic D => exact ⟨_, g, h, j, .pass (x := .inLoop c) rfl (fun _ _ => .inl (by simp)) d⟩
      | outgrown => exact ⟨_, g, h, j, .pass (x := .inLoop c) rfl (fun _ _ => .inl (by simp)) d⟩
  obtain ⟨e, q, r, j, d⟩ := key m a w u
  exact ⟨e, q, r, j, .of_steps (.one step_loop) d⟩
theorem fA (I : Nat → (Nat → Value) → World → Prop) (m : Nat) (b : I m E W) (round : ∀ m E W, I m E W → CW P n c (jZ (fun E' W' => ∃ d, d < m ∧ I d E' W') Q) E W) : CW P n (.loop c) Q E W := fun a ha =>
  DB (fun m a w => ∃ E, Ag n a E ∧ I m E w) m ⟨E, ha, b⟩ (fun m a w ⟨E, ha, k⟩ =>
    wp_mono (round m E w k a ha) (fun e l p h => by
      cases e with
      | normal => obtain ⟨E', i, d, j, g⟩ := h; exact ⟨d, j, E', i, g⟩
      | _ => exact h))
def mC (n : Nat) (ops : Array Oper) (E : Nat → Value) (o : Oper) : Prop :=
  o.guard = none ∨ ∃ j want t, o.guard = some (j, want) ∧ (ops[j]?).bind (·.dst) = some t ∧ t < n ∧ E t = .bool want
theorem mC.of {a : Act} (h : mC n ops E o) (ha : Ag n a E) : Region.wanted o (yielded ops a.tmps) = true := by
  rcases h with h | ⟨j, want, t, d, g, i, b⟩
  · simp [Region.wanted, h]
  · simp [Region.wanted, d, ha.yield g i b]
theorem Hi {d : Nat} {v : Value} {W' : World} (hw : mC n ops E o) (b : o.dst = some d) (g : d < n) (i : (execOp (aS E) o).run P W = .ok (.value v) W') (h : LW P n ops Q rest (gB E d v) W') : LW P n ops Q (o :: rest) E W := fun a ha => by
  unfold wpList
  rw [if_pos (hw.of ha)]
  refine .inl ?_
  unfold Oper.wp
  rw [ha.eval, i, Oper.upon_value, b]
  exact h _ (ha.put g v)
theorem IC {W' : World} (hw : mC n ops E o) (b : o.dst = none) (d : (execOp (aS E) o).run P W = .ok .skip W') (h : LW P n ops Q rest E W') : LW P n ops Q (o :: rest) E W := fun a ha => by
  unfold wpList
  rw [if_pos (hw.of ha)]
  refine .inl ?_
  unfold Oper.wp
  rw [ha.eval, d, Oper.upon_skip, b]
  exact h _ (ha.sR _)
theorem IG {f : FuncId} {args : Array Value} {d : Nat} (hw : mC n ops E o) (g : o.dst = some d) (j : d < n) (k : (execOp (aS E) o).run P W = .ok (.enter f args) W) (h : Calls P f args W fun e b => ∃ v, e = .returned v ∧ LW P n ops Q rest (gB E d v) b) : LW P n ops Q (o :: rest) E W := fun a ha => by
  unfold wpList
  rw [if_pos (hw.of ha)]
  refine .inl ?_
  unfold Oper.wp
  rw [ha.eval, k, Oper.upon_enter]
  refine h.mono ?_
  rintro e b ⟨v, rfl, i⟩
  simp only [g]
  exact i _ (ha.put j v)
theorem LP {d j t : Nat} {want : Bool} (g : o.dst = some d) (l : d < n) (i : o.guard = some (j, want)) (k : (ops[j]?).bind (·.dst) = some t) (m : t < n) (b : E t = .bool (!want)) (h : LW P n ops Q rest (gB E d undef) W) : LW P n ops Q (o :: rest) E W := fun a ha => by
  unfold wpList
  have p := ha.yield k m b
  rw [if_neg (by simp [Region.wanted, i, p])]
  rw [g]
  exact h _ (ha.put l _)
end
end Go.Proofs.YtmlncblocfcmiaaGreat
namespace Go.Proofs.YtmlncblocfcmiaaGreat
open Go.RowKit
variable {dd : Bool}
abbrev bW := Nat → Option Obj
def hp (W : World) : bW := fun b => W.heap[b]?
def nu (dd : Bool) (a b : Nat) : Prop := dd = true → a ≤ b
theorem nu.of {dd : Bool} {a b : Nat} (h : a ≤ b) : nu dd a b := fun _ => h
theorem nu.trans {dd : Bool} {a b c : Nat} (h : nu dd a b) (k : nu dd b c) : nu dd a c := fun e => Nat.le_trans (h e) (k e)
structure Ex (dd : Bool) (w W : World) : Prop where
  os : W.os = w.os
  tape : W.tape = w.tape
  output : W.output = w.output
  drawn : nu dd w.drawn W.drawn
  size : w.heap.size ≤ W.heap.size
  eO : ∀ b, b < w.heap.size → W.heap[b]? = w.heap[b]?
theorem Ex.refl (w : World) : Ex dd w w := ⟨rfl, rfl, rfl, nu.of (Nat.le_refl _), Nat.le_refl _, fun _ _ => rfl⟩
theorem Ex.trans {a b c : World} (h : Ex dd a b) (k : Ex dd b c) : Ex dd a c :=
  ⟨k.os.trans h.os, k.tape.trans h.tape, k.output.trans h.output, nu.trans h.drawn k.drawn, Nat.le_trans h.size k.size, fun i d => (k.eO i (Nat.lt_of_lt_of_le d h.size)).trans (h.eO i d)⟩
theorem Ex.drew (w : World) : Ex dd w w.drew := ⟨rfl, rfl, rfl, nu.of (Nat.le_succ _), Nat.le_refl _, fun _ _ => rfl⟩
theorem Ex.alloc (w : World) (o : Obj) : Ex dd w (w.alloc o) := ⟨rfl, rfl, rfl, nu.of (Nat.le_refl _), by show w.heap.size ≤ (w.heap.push o).size; simp, fun k a => Below.heap_alloc w o k a⟩
theorem Ex.dK {w W : World} (h : Ex true w W) : Ex dd w W := ⟨h.os, h.tape, h.output, nu.of (h.drawn rfl), h.size, h.eO⟩
def bO (μ μ' : bW) : Prop := ∀ b o, μ b = some o → μ' b = some o
theorem bO.refl (μ : bW) : bO μ μ := fun _ _ h => h
theorem bO.trans {a b c : bW} (h : bO a b) (k : bO b c) : bO a c := fun x o d => k x o (h x o d)
structure ST (dd : Bool) (F : Nat → Prop) (w W : World) (μ : bW) (L : List (Nat × Obj)) : Prop where
  os : W.os = w.os
  tape : W.tape = w.tape
  output : W.output = w.output
  drawn : nu dd w.drawn W.drawn
  size : w.heap.size ≤ W.heap.size
  eO : ∀ b, b < w.heap.size → ¬ F b → W.heap[b]? = w.heap[b]?
  mem : ∀ b o, μ b = some o → W.heap[b]? = some o
  box : ∀ b o, (b, o) ∈ L → W.heap[b]? = some o ∧ μ b = none ∧ (w.heap.size ≤ b ∨ F b)
  nd : (L.map (·.1)).Nodup
def cC : Nat → Prop := fun _ => False
theorem ST.start (w : World) : ST dd cC w w (hp w) [] :=
  ⟨rfl, rfl, rfl, nu.of (Nat.le_refl _), Nat.le_refl _, fun _ _ _ => rfl, fun _ _ h => h, fun _ _ h => (by cases h), by simp⟩
section
variable {F : Nat → Prop} {w W W' : World} {μ μ' : bW} {L L' : List (Nat × Obj)}
theorem ST.ex (h : ST dd cC w W μ L) : Ex dd w W := ⟨h.os, h.tape, h.output, h.drawn, h.size, fun b a => h.eO b a (fun x => x)⟩
theorem IK (W : World) (o : Obj) : (W.alloc o).heap[W.heap.size]? = some o := heap_alloc_new W o
theorem gC {W : World} {b : Nat} {o : Obj} (h : W.heap[b]? = some o) : b < W.heap.size := (Array.getElem?a.1 h).1
theorem ST.drew (h : ST dd F w W μ L) : ST dd F w W.drew μ L :=
  ⟨h.os, h.tape, h.output, nu.trans h.drawn (nu.of (Nat.le_succ _)), h.size, h.eO, h.mem, h.box, h.nd⟩
theorem ST.Bc (h : ST dd F w W μ L) {b : Nat} {o : Obj} (a : (b, o) ∈ L) : b < W.heap.size := gC (h.box b o a).1
theorem ST.alloc (h : ST dd F w W μ L) (o : Obj) : ST dd F w (W.alloc o) μ ((W.heap.size, o) :: L) := by
  refine ⟨h.os, h.tape, h.output, h.drawn, Nat.le_trans h.size (Ex.alloc (dd := true) W o).size, fun b a k => ?_, fun b d a => ?_, fun b d a => ?_, ?_⟩
  · rw [(Ex.alloc (dd := true) W o).eO b (Nat.lt_of_lt_of_le a h.size)]; exact h.eO b a k
  · have := h.mem b d a
    rw [(Ex.alloc (dd := true) W o).eO b (gC this)]; exact this
  · rcases List.mem_cons.1 a with e | a
    · cases e
      refine ⟨IK W o, ?_, .inl h.size⟩
      cases hm : μ W.heap.size with
      | none => rfl
      | some x => have := gC (h.mem _ _ hm); omega
    · obtain ⟨g, i, j⟩ := h.box b d a
      exact ⟨by rw [(Ex.alloc (dd := true) W o).eO b (gC g)]; exact g, i, j⟩
  · simp only [List.map_cons, List.nodup_cons]
    refine ⟨fun hm => ?_, h.nd⟩
    obtain ⟨⟨b, d⟩, a, e⟩ := List.mem_map.1 hm
    have := h.Bc a
    simp at e
    omega
theorem ST.put {A B : List (Nat × Obj)} {b : Nat} {o p : Obj} (h : ST dd F w W μ (A ++ (b, o) :: B)) (v : W'.os = W.os ∧ W'.tape = W.tape ∧ W'.output = W.output ∧ W.drawn ≤ W'.drawn ∧ W'.heap.size = W.heap.size) (i : ∀ k, k ≠ b → W'.heap[k]? = W.heap[k]?) (y : W'.heap[b]? = some p) : ST dd F w W' μ (A ++ (b, p) :: B) := by
  obtain ⟨q, r, s, t, u⟩ := v
  have g := h.box b o (by simp)
  have d := h.nd
  simp only [List.map_append, List.map_cons] at d
  have j : ∀ x o, (x, o) ∈ A → x ≠ b := fun x o m e => by
    subst e
    have := (List.nodup_append.1 d).2.2 x (List.mem_map.2 ⟨_, m, rfl⟩) x (by simp)
    exact this rfl
  have l : ∀ x o, (x, o) ∈ B → x ≠ b := fun x o m e => by
    subst e
    have := (List.nodup_cons.1 (List.nodup_append.1 d).2.1).1
    exact this (List.mem_map.2 ⟨_, m, rfl⟩)
  refine ⟨q.trans h.os, r.trans h.tape, s.trans h.output, nu.trans h.drawn (nu.of t), by rw [u]; exact h.size, fun k a n => ?_, fun k x a => ?_, fun k x a => ?_, by simpa using d⟩
  · rw [i k (fun e => by subst e; rcases g.2.2 with h | h; omega; exact n h)]
    exact h.eO k a n
  · rw [i k (fun e => by subst e; rw [g.2.1] at a; cases a)]
    exact h.mem k x a
  · rcases List.mem_append.1 a with a | a
    · rw [i k (j k x a)]; exact h.box k x (by simp [a])
    · rcases List.mem_cons.1 a with e | a
      · cases e; exact ⟨y, g.2⟩
      · rw [i k (l k x a)]; exact h.box k x (by simp [a])
def Lo (F : Nat → Prop) (w : World) (μ μ' : bW) : Prop := ∀ b, b < w.heap.size → ¬ F b → μ' b = μ b
theorem Lo.refl {F : Nat → Prop} {w : World} {μ : bW} : Lo F w μ μ := fun _ _ _ => rfl
theorem Lo.trans {F : Nat → Prop} {w : World} {a b c : bW} (h : Lo F w a b) (k : Lo F w b c) : Lo F w a c := fun x g d => (k x g d).trans (h x g d)
def grow (μ : bW) (W W' : World) : bW := fun b => if b < W.heap.size then μ b else W'.heap[b]?
theorem ST.zi (h : ST dd F w W μ L) {b : Nat} {o : Obj} (a : μ b = some o) : b < W.heap.size := gC (h.mem b o a)
theorem ST.call (h : ST dd F w W μ L) (d : Ex dd W W') : ST dd F w W' (grow μ W W') L := by
  refine ⟨d.os.trans h.os, d.tape.trans h.tape, d.output.trans h.output, nu.trans h.drawn d.drawn, Nat.le_trans h.size d.size, fun b a m => ?_, fun b o a => ?_, fun b o a => ?_, h.nd⟩
  · rw [d.eO b (Nat.lt_of_lt_of_le a h.size)]; exact h.eO b a m
  · unfold grow at a
    split at a
    · g j; rw [d.eO b j]; exact h.mem b o a
    · exact a
  · obtain ⟨i, k, l⟩ := h.box b o a
    exact ⟨by rw [d.eO b (gC i)]; exact i, by unfold grow; rw [if_pos (gC i)]; exact k, l⟩
theorem ST.Ia (h : ST dd F w W μ L) (W' : World) : bO μ (grow μ W W') := fun b o a => by
  unfold grow; rw [if_pos (h.zi a)]; exact a
theorem ST.dK (h : ST dd F w W μ' L) (d : bO μ μ') : ST dd F w W μ L :=
  ⟨h.os, h.tape, h.output, h.drawn, h.size, h.eO, fun b o a => h.mem b o (d b o a), fun b o a => by
    obtain ⟨g, i, j⟩ := h.box b o a
    refine ⟨g, ?_, j⟩
    cases hm : μ b with
    | none => rfl
    | some x => (have := d b x hm; rw [i] at this; cases this), h.nd⟩
theorem ST.DI (h : ST dd F w W μ L) (a : Ex dd W W') : ST dd F w W' μ L := (h.call a).dK (h.Ia W')
theorem ST.aP (h : ST dd F w W μ L) : bO μ (hp W) := h.mem
def Fp (μ : bW) (b : Nat) (o : Obj) : bW := fun k => if k = b then some o else μ k
theorem ST.CA {A B : List (Nat × Obj)} {b : Nat} {o : Obj} (h : ST dd F w W μ (A ++ (b, o) :: B)) : ST dd F w W (Fp μ b o) (A ++ B) := by
  have j := h.box b o (by simp)
  have d := h.nd
  simp only [List.map_append, List.map_cons] at d
  have m : ∀ x y, (x, y) ∈ A ++ B → x ≠ b := fun x y i e => by
    subst e
    rcases List.mem_append.1 i with i | i
    · exact (List.nodup_append.1 d).2.2 x (List.mem_map.2 ⟨_, i, rfl⟩) x (by simp) rfl
    · exact (List.nodup_cons.1 (List.nodup_append.1 d).2.1).1 (List.mem_map.2 ⟨_, i, rfl⟩)
  refine ⟨h.os, h.tape, h.output, h.drawn, h.size, h.eO, fun k x a => ?_, fun k x a => ?_, ?_⟩
  · unfold Fp at a
    split at a
    · g e; cases a; rw [e]; exact j.1
    · exact h.mem k x a
  · have l : (k, x) ∈ A ++ (b, o) :: B := by
      rcases List.mem_append.1 a with h | h <;> simp [h]
    obtain ⟨n, p, q⟩ := h.box k x l
    exact ⟨n, by unfold Fp; rw [if_neg (m k x a)]; exact p, q⟩
  · have : (A ++ B).Sublist (A ++ (b, o) :: B) := List.Sublist.append (List.Sublist.refl A) (List.sublist_cons_self _ _)
    exact List.Nodup.sublist (this.map _) h.nd
theorem ST.BY {A B : List (Nat × Obj)} {b : Nat} {o : Obj} (h : ST dd F w W μ (A ++ (b, o) :: B)) : bO μ (Fp μ b o) := fun k x d => by
  unfold Fp
  split
  · a e; subst e; rw [(h.box k o (by simp)).2.1] at d; cases d
  · exact d
theorem ST.Hh {A B : List (Nat × Obj)} {b : Nat} {o : Obj} (h : ST dd F w W μ (A ++ (b, o) :: B)) : Lo F w μ (Fp μ b o) := fun k g d => by
  refine if_neg (fun e => ?_)
  subst e
  rcases (h.box k o (by simp)).2.2 with a | a
  · omega
  · exact d a
theorem ST.drop {A B : List (Nat × Obj)} {p : Nat × Obj} (h : ST dd F w W μ (A ++ p :: B)) : ST dd F w W μ (A ++ B) :=
  (h.CA (b := p.1) (o := p.2)).dK h.BY
end
abbrev jq (α : Type) := bW → List Value → α → Prop
def Sl {α : Type} (R : jq α) (k : Nat) (μ : bW) (v : Value) (l : List α) : Prop :=
  ∃ A c, v = .slice A l.length c ∧ l.length ≤ c ∧ c ≤ maxLen ∧ (0 < l.length → ∃ b off cs T fr, A = some ⟨b, off, none⟩ ∧ μ b = some (.cells cs T fr) ∧
    ∀ i x, l[i]? = some x → ∃ ys, ys.length = k ∧ R μ ys x ∧ ∀ j y, ys[j]? = some y → cs[off + i * k + j]? = some y)
def At (μ : bW) (v : Value) (ys : List Value) : Prop :=
  ∃ b off cs T fr, v = .pointer (some ⟨b, off, none⟩) ∧ μ b = some (.cells cs T fr) ∧ ∀ j y, ys[j]? = some y → cs[off + j]? = some y
def Fr (B : Nat) (v : Value) : Prop := ∀ b, v.ownBlock = some b → B ≤ b
def DE {α : Type} (R : jq α) : Prop := ∀ μ μ' ys x, bO μ μ' → R μ ys x → R μ' ys x
def Pl {α : Type} (enc : α → List Value) : jq α := fun _ ys x => ys = enc x
theorem Pl.mono {α : Type} (enc : α → List Value) : DE (Pl enc) := fun _ _ _ _ _ h => h
theorem Sl.mono {α : Type} {R : jq α} (u : DE R) {k : Nat} {μ μ' : bW} {v : Value} {l : List α} (h : Sl R k μ v l) (d : bO μ μ') : Sl R k μ' v l := by
  obtain ⟨A, c, g, j, m, n⟩ := h
  refine ⟨A, c, g, j, m, fun w => ?_⟩
  obtain ⟨b, off, cs, T, fr, p, q, r⟩ := n w
  exact ⟨b, off, cs, T, fr, p, d _ _ q, fun i x y => let ⟨ys, s, t, a⟩ := r i x y; ⟨ys, s, u _ _ _ _ d t, a⟩⟩
theorem At.mono {μ μ' : bW} {v : Value} {ys : List Value} (h : At μ v ys) (i : bO μ μ') : At μ' v ys := by
  obtain ⟨b, off, cs, T, fr, a, d, g⟩ := h
  exact ⟨b, off, cs, T, fr, a, i _ _ d, g⟩
theorem Sl.len {α : Type} {R : jq α} {k : Nat} {μ : bW} {v : Value} {l : List α} (h : Sl R k μ v l) : l.length ≤ 9223372036854775807 := by
  obtain ⟨A, c, b, d, a, g⟩ := h
  unfold maxLen at a
  omega
theorem Sl.nil {α : Type} (R : jq α) (k : Nat) (μ : bW) : Sl R k μ (.slice none 0 0) [] := ⟨none, 0, rfl, Nat.le_refl _, by decide, fun h => absurd h (by simp)⟩
theorem Fr.mono {B B' : Nat} {v : Value} (h : Fr B v) (a : B' ≤ B) : Fr B' v := fun b d => Nat.le_trans a (h b d)
theorem Fr.nil (B : Nat) : Fr B (.slice none 0 0) := fun b a => by simp [Value.ownBlock] at a
end Go.Proofs.YtmlncblocfcmiaaGreat
namespace Go.Proofs.YtmlncblocfcmiaaGreat
open Go.RowKit
variable {dd : Bool}
section
variable {P : Program} {n : Nat} {Q : kj} {E : Nat → Value} {W : World} {ops : Array Oper} {rest : List Oper}
  {d : Option Nat} {ty : TypeId} {pos : String} {af : Array Edge} {g : Option (Nat × Bool)}
  {F : Nat → Prop} {w : World} {μ : bW} {L : List (Nat × Obj)}
def er (P : Program) (E : Nat → Value) (o : Oper) (W : World) (v : Value) (W' : World) : Prop := (execOp (aS E) o).run P W = .ok (.value v) W'
theorem Cm {o : Oper} {dd : Nat} {v : Value} (hw : mC n ops E o) (a : o.dst = some dd) (b : dd < n) (d : er P E o W v W) (h : LW P n ops Q rest (gB E dd v) W) : LW P n ops Q (o :: rest) E W := Hi hw a b d h
theorem aQ {x : Operand} {v : Value} (a : aS E x = v) : er P E ⟨d, .move x, ty, pos, af, g⟩ W v W := by rw [← a]; rfl
theorem fZ {x : Operand} {v : Value} (a : aS E x = v) : er P E ⟨d, .assign x, ty, pos, af, g⟩ W v W := by rw [← a]; rfl
theorem aY {c x y : Operand} {v : Value} (a : aS E c = .bool true) (b : aS E x = v) : er P E ⟨d, .pick c x y, ty, pos, af, g⟩ W v W := by
  show (do pure (.value (if ← asBool (aS E c) then aS E x else aS E y)) : Sem Next).run P W = _
  rw [a, ← b]; simp [asBool]
theorem aZ {c x y : Operand} {v : Value} (a : aS E c = .bool false) (b : aS E y = v) : er P E ⟨d, .pick c x y, ty, pos, af, g⟩ W v W := by
  show (do pure (.value (if ← asBool (aS E c) then aS E x else aS E y)) : Sem Next).run P W = _
  rw [a, ← b]; simp [asBool]
theorem zf {x : Operand} {i : Nat} {vs : Array Value} {v : Value} (b : aS E x = .tuple vs) (a : vs[i]? = some v) : er P E ⟨d, .extract x i, ty, pos, af, g⟩ W v W := by
  show (do pure (.value (← Instr.extract (aS E x) i)) : Sem Next).run P W = _
  rw [b]; simp [Instr.extract, a]
theorem gn {u : TypeId} {x : Operand} {b : Bool} (a : aS E x = .bool b) : er P E ⟨d, .unOp .not u x, ty, pos, af, g⟩ W (.bool !b) W := by
  show (do pure (.value (← Op.unary .not (aS E x))) : Sem Next).run P W = _
  rw [a]; simp [Op.unary]
theorem Gw {fn : Fn} {first caps : Array Operand} {v : Value} (a : .func fn (first.map (aS E)) (caps.map (aS E)) = v) : er P E ⟨d, .makeFunc fn first caps, ty, pos, af, g⟩ W v W := by
  show (do pure (.value (← Instr.makeFunc fn (first.map (aS E)) (caps.map (aS E)))) : Sem Next).run P W = _
  rw [← a]; simp [Instr.makeFunc]
def DH (k : IntKind) (op : BinOp) (a b : Int) : Option Value :=
  match op with
  | .eql => some (.bool (a == b))
  | .neq => some (.bool (a != b))
  | .lss => some (.bool (decide (a < b)))
  | .leq => some (.bool (decide (a ≤ b)))
  | .gtr => some (.bool (decide (a > b)))
  | .geq => some (.bool (decide (a ≥ b)))
  | .add => some (.int k (k.wrap (a + b)))
  | .sub => some (.int k (k.wrap (a - b)))
  | .mul => some (.int k (k.wrap (a * b)))
  | _ => none
theorem cF {op : BinOp} {h m : TypeId} {x y : Operand} {k : IntKind} {a b : Int} {v : Value} (j : aS E x = .int k a) (l : aS E y = .int k b) (i : DH k op a b = some v) :
    er P E ⟨d, .binOp op h x y m, ty, pos, af, g⟩ W v W := by
  show (do let r ← (do eqGuard op h x y (aS E x) (aS E y); binOp op h (aS E x) (aS E y)); pure (.value r) : Sem Next).run P W = _
  rw [j, l]
  cases op <;> simp [DH] at i <;> subst i <;> simp [eqGuard, binOp, Op.intCmp, Op.intArith]
def Jo (op : BinOp) (a b : ByteArray) : Option Value :=
  match op with
  | .eql => some (.bool (a.toList == b.toList))
  | .neq => some (.bool !(a.toList == b.toList))
  | .lss => some (.bool (Op.bytesLess a.toList b.toList))
  | .leq => some (.bool (Op.bytesLess a.toList b.toList || a.toList == b.toList))
  | .gtr => some (.bool !(Op.bytesLess a.toList b.toList || a.toList == b.toList))
  | .geq => some (.bool !(Op.bytesLess a.toList b.toList))
  | _ => none
def pW (a b : ByteArray) : Option ByteArray := if ((a.size + b.size : Nat) : Int) > IntKind.i64.max then none else some (a ++ b)
theorem kN {op : BinOp} {h l : TypeId} {x y : Operand} {a b : ByteArray} {v : Value} (j : aS E x = .string a) (k : aS E y = .string b) (i : Jo op a b = some v) :
    er P E ⟨d, .binOp op h x y l, ty, pos, af, g⟩ W v W := by
  show (do let r ← (do eqGuard op h x y (aS E x) (aS E y); binOp op h (aS E x) (aS E y)); pure (.value r) : Sem Next).run P W = _
  rw [j, k]
  cases op <;> simp [Jo] at i <;> subst i <;> simp [eqGuard, binOp, Op.stringOp]
theorem qt {j m : TypeId} {x y : Operand} {a b r : ByteArray} (k : aS E x = .string a) (l : aS E y = .string b) (i : pW a b = some r) :
    er P E ⟨d, .binOp .add j x y m, ty, pos, af, g⟩ W (.string r) W := by
  show (do let r ← (do eqGuard .add j x y (aS E x) (aS E y); binOp .add j (aS E x) (aS E y)); pure (.value r) : Sem Next).run P W = _
  rw [k, l]
  simp only [pW] at i
  split at i
  · cases i
  · h hle; cases i; simp [eqGuard, binOp, Op.stringOp]; simpa using hle
theorem JV {op : BinOp} {h m : TypeId} {x y : Operand} {a b : Bool} (j : P.underlying h = some .bool) (k : aS E x = .bool a) (l : aS E y = .bool b) (i : op = .eql) :
    er P E ⟨d, .binOp op h x y m, ty, pos, af, g⟩ W (.bool (a == b)) W := by
  subst i
  show (do let r ← (do eqGuard .eql h x y (aS E x) (aS E y); binOp .eql h (aS E x) (aS E y)); pure (.value r) : Sem Next).run P W = _
  rw [k, l]
  simp [eqGuard, binOp, Op.equal, Op.maxDepth, run_equalIn_bool' W 9999 h a b j]
theorem nZ {h m : TypeId} {x y : Operand} {a b : Array Value} {r : Bool} (k : aS E x = .agg a) (l : aS E y = .agg b) (i : ∀ W, (eqGuard .eql h x y (.agg a) (.agg b)).run P W = .ok () W) (j : ∀ W, (binOp .eql h (.agg a) (.agg b)).run P W = .ok (.bool r) W) : er P E ⟨d, .binOp .eql h x y m, ty, pos, af, g⟩ W (.bool r) W := by
  show (do let r ← (do eqGuard .eql h x y (aS E x) (aS E y); binOp .eql h (aS E x) (aS E y)); pure (.value r) : Sem Next).run P W = _
  rw [k, l]; simp [i W, j W]
theorem BA {h m : TypeId} {x y : Operand} {a b : Array Value} {r : Bool} (k : aS E x = .agg a) (l : aS E y = .agg b) (i : ∀ W, (eqGuard .neq h x y (.agg a) (.agg b)).run P W = .ok () W) (j : ∀ W, (binOp .neq h (.agg a) (.agg b)).run P W = .ok (.bool r) W) : er P E ⟨d, .binOp .neq h x y m, ty, pos, af, g⟩ W (.bool r) W := by
  show (do let r ← (do eqGuard .neq h x y (aS E x) (aS E y); binOp .neq h (aS E x) (aS E y)); pure (.value r) : Sem Next).run P W = _
  rw [k, l]; simp [i W, j W]
theorem vQ {t e : TypeId} (dd : Nat) (b : P.underlying t = some (.pointer e)) (a : Option Addr) (W : World) : (Op.equalIn (dd + 1) t (.pointer a) (.pointer none)).run P W = .ok a.isNone W := by
  cases a <;> simp [Op.equalIn, run_underlying b]
theorem qh {b l e : TypeId} {x y : Operand} {a : Option Addr} (i : P.underlying b = some (.pointer e)) (j : aS E x = .pointer a) (k : aS E y = .pointer none) :
    er P E ⟨d, .binOp .eql b x y l, ty, pos, af, g⟩ W (.bool a.isNone) W := by
  show (do let r ← (do eqGuard .eql b x y (aS E x) (aS E y); binOp .eql b (aS E x) (aS E y)); pure (.value r) : Sem Next).run P W = _
  rw [j, k]
  have h := vQ 9999 i a W
  simp [eqGuard, binOp, Op.equal, show Op.maxDepth = 9999 + 1 from rfl, h]
theorem xj {b l e : TypeId} {x y : Operand} {a : Option Addr} (i : P.underlying b = some (.pointer e)) (j : aS E x = .pointer a) (k : aS E y = .pointer none) :
    er P E ⟨d, .binOp .neq b x y l, ty, pos, af, g⟩ W (.bool !a.isNone) W := by
  show (do let r ← (do eqGuard .neq b x y (aS E x) (aS E y); binOp .neq b (aS E x) (aS E y)); pure (.value r) : Sem Next).run P W = _
  rw [j, k]
  have h := vQ 9999 i a W
  simp [eqGuard, binOp, Op.equal, show Op.maxDepth = 9999 + 1 from rfl, h]
theorem gS {x : Operand} {t : TypeId} {s : ByteArray} (a : P.underlying t = some .string) (b : aS E x = .string s) : er P E ⟨d, .call ⟨.builtin .len, #[x], #[t]⟩, ty, pos, af, g⟩ W (.int .i64 s.size) W := by
  show (do let d ← resolve (aS E) ⟨.builtin .len, #[x], #[t]⟩ ty; invoke d.target d.args : Sem Next).run P W = _
  simp [resolve, invoke, builtin, Builtin.len_, run_underlying a, b, goInt]
theorem uD {x : Operand} {t e : TypeId} {A : Option Addr} {l c : Nat} (a : P.underlying t = some (.slice e)) (b : aS E x = .slice A l c) : er P E ⟨d, .call ⟨.builtin .len, #[x], #[t]⟩, ty, pos, af, g⟩ W (.int .i64 l) W := by
  show (do let d ← resolve (aS E) ⟨.builtin .len, #[x], #[t]⟩ ty; invoke d.target d.args : Sem Next).run P W = _
  simp [resolve, invoke, builtin, Builtin.len_, run_underlying a, b, goInt]
theorem cU {α : Type} {R : jq α} {k : Nat} {m : bW} {x : Operand} {t e : TypeId} {v : Value} {l : List α} (b : P.underlying t = some (.slice e)) (h : aS E x = v) (a : Sl R k m v l) : er P E ⟨d, .call ⟨.builtin .len, #[x], #[t]⟩, ty, pos, af, g⟩ W (.int .i64 l.length) W := by
  obtain ⟨A, c, rfl, _⟩ := a
  exact uD b h
theorem uy {t : TypeId} {x a : Operand} {m : IntKind} {s : ByteArray} {i : Int} {c : UInt8} (k : P.underlying t = some .string) (l : aS E x = .string s) (h : aS E a = .int m i) (b : 0 ≤ i) (j : s[i.toNat]? = some c) :
    er P E ⟨d, .index t x a, ty, pos, af, g⟩ W (.int .u8 c.toNat) W := by
  show (do pure (.value (← Instr.index t (aS E x) (aS E a))) : Sem Next).run P W = _
  rw [l, h]
  simp [Instr.index, asIntOf, run_underlying k, b, j]
def dY (P : Program) (t : TypeId) (f off : Nat) : Prop := ∀ b o w, (Instr.fieldAt t (.pointer (some ⟨b, o, none⟩)) f).run P w = .ok (.pointer (some ⟨b, o + off, none⟩)) w
theorem aO {t : TypeId} {x : Operand} {f off b o : Nat} (a : dY P t f off) (h : aS E x = .pointer (some ⟨b, o, none⟩)) : er P E ⟨d, .fieldAddr t x f, ty, pos, af, g⟩ W (.pointer (some ⟨b, o + off, none⟩)) W := by
  show (do pure (.value (← Instr.fieldAt t (aS E x) f)) : Sem Next).run P W = _
  rw [h]; simp [a b o W]
theorem zc {t : TypeId} {x : Operand} {f off : Nat} {v : Value} {ys : List Value} (zs : List Value) (p : dY P t f off) (s : aS E x = v) (r : At μ v ys) (u : (ys.drop off).take zs.length = zs) :
    ∃ l, At μ l zs ∧ ∀ W, er P E ⟨d, .fieldAddr t x f, ty, pos, af, g⟩ W l W := by
  obtain ⟨b, o, cs, T, fr, rfl, m, n⟩ := r
  refine ⟨_, ⟨b, o + off, cs, T, fr, rfl, m, fun j y k => ?_⟩, fun W => aO p s⟩
  have q : j < zs.length := (List.getElem?a.1 k).1
  have := n (off + j) y (by
    rw [← u, List.getElem?h q, List.getElem?i] at k
    exact k)
  rw [Nat.add_assoc]
  exact this
theorem fF {x : Operand} {a : Addr} (b : aS E x = .pointer (some a)) : er P E ⟨d, .nilCheck x, ty, pos, af, g⟩ W (.pointer (some a)) W := by
  unfold er execOp
  simp [b]
theorem FL {α : Type} {R : jq α} {k : Nat} {t e : TypeId} {x m : Operand} {Q : IntKind} {v : Value} {i : Int} {l : List α} {x0 : α} (L : P.underlying t = some (.slice e)) (he : ∀ w, (sizeOf e).run P w = .ok k w) (M : aS E x = v) (G : aS E m = .int Q i) (J : Sl R k μ v l) (q : 0 ≤ i) (n : l[i.toNat]? = some x0) :
    ∃ p ys, ys.length = k ∧ R μ ys x0 ∧ At μ p ys ∧ ∀ W, er P E ⟨d, .indexAddr t x m, ty, pos, af, g⟩ W p W := by
  obtain ⟨A, c, rfl, U, Y, r⟩ := J
  have I : i.toNat < l.length := (List.getElem?a.1 n).1
  obtain ⟨b, off, cs, T, fr, rfl, s, u⟩ := r (by omega)
  obtain ⟨ys, z, D, h⟩ := u i.toNat x0 n
  refine ⟨.pointer (some ⟨b, off + i.toNat * k, none⟩), ys, z, D, ⟨b, off + i.toNat * k, cs, T, fr, rfl, s, fun j y O => h j y O⟩, fun W => ?_⟩
  show (do pure (.value (← Instr.indexAt t (aS E x) (aS E m))) : Sem Next).run P W = _
  rw [M, G]
  have F : 0 ≤ i ∧ i < (l.length : Int) := ⟨q, by omega⟩
  simp [Instr.indexAt, asIntOf, run_underlying L, he W, F, Addr.add_lit]
theorem fI {α : Type} {enc : α → List Value} {k : Nat} {t e : TypeId} {x a : Operand} {y : IntKind} {v : Value} {i : Int} {l : List α} {x0 : α} (s : P.underlying t = some (.slice e)) (he : ∀ w, (sizeOf e).run P w = .ok k w) (u : aS E x = v) (n : aS E a = .int y i) (r : Sl (Pl enc) k μ v l) (b : 0 ≤ i) (q : l[i.toNat]? = some x0) :
    ∃ p, At μ p (enc x0) ∧ ∀ W, er P E ⟨d, .indexAddr t x a, ty, pos, af, g⟩ W p W := by
  obtain ⟨p, ys, z, h, j, m⟩ := FL (d := d) (ty := ty) (pos := pos) (af := af) (g := g) s he u n r b q
  cases h
  exact ⟨p, j, m⟩
theorem Dy (P : Program) {W : World} {b off : Nat} {cs : Array Value} {T : TypeId} {fr : Nat × Nat} (a : W.heap[b]? = some (.cells cs T fr)) (ys : List Value) (g : ∀ j y, ys[j]? = some y → cs[off + j]? = some y) :
    (loadCells ⟨b, off, none⟩ ys.length).run P W = .ok ys.toArray W :=
  run_loadCells_list W ⟨b, off, none⟩ ys (fun j v d => by rw [Addr.add_lit, cell_of_row W b (off + j) cs T fr a]; exact g j v d)
theorem vZ {W : World} {t : TypeId} {b off : Nat} {cs : Array Value} {T : TypeId} {fr : Nat × Nat} (a : ∀ w, (isAgg t).run P w = .ok true w) (ys : List Value) (d : ∀ w, (sizeOf t).run P w = .ok ys.length w) (g : W.heap[b]? = some (.cells cs T fr)) (h : ∀ j y, ys[j]? = some y → cs[off + j]? = some y) : (Instr.loadAt t (.pointer (some ⟨b, off, none⟩))).run P W = .ok (.agg ys.toArray) W := by
  simp [Instr.loadAt, Instr.sureAddr, loadVar, a W, d W, Dy P g ys h]
theorem wi {W : World} {t : TypeId} {b off : Nat} {cs : Array Value} {T : TypeId} {fr : Nat × Nat} (a : ∀ w, (isAgg t).run P w = .ok false w) {y : Value} (d : W.heap[b]? = some (.cells cs T fr)) (h : cs[off]? = some y) : (Instr.loadAt t (.pointer (some ⟨b, off, none⟩))).run P W = .ok y W := by
  have g : W.cell? ⟨b, off, none⟩ = some y := by rw [cell_of_row W b off cs T fr d]; exact h
  simp [Instr.loadAt, Instr.sureAddr, loadVar, a W, load, Sem.run, g]
theorem aH {t : TypeId} {x : Operand} {a v : Value} (h : aS E x = a) (b : (Instr.loadAt t a).run P W = .ok v W) : er P E ⟨d, .load t x, ty, pos, af, g⟩ W v W := by
  show (do pure (.value (← Instr.loadAt t (aS E x))) : Sem Next).run P W = _
  rw [h]; simp [b]
def gd (μ : bW) (A : List (Nat × Obj)) (W : World) : Prop := (∀ b o, μ b = some o → W.heap[b]? = some o) ∧ ∀ b o, (b, o) ∈ A → W.heap[b]? = some o
theorem ST.has (h : ST dd F w W μ L) : gd μ L W := ⟨h.mem, fun b o a => (h.box b o a).1⟩
theorem gd.sub {μ' : bW} {A A' : List (Nat × Obj)} (h : gd μ A W) (g : bO μ' μ) (d : ∀ p, p ∈ A' → p ∈ A) : gd μ' A' W := ⟨fun b o a => h.1 b o (g b o a), fun b o a => h.2 b o (d _ a)⟩
theorem bE {A : List (Nat × Obj)} (h : gd μ A W) {t : TypeId} {p : Value} {ys : List Value} (hp : At μ p ys) (g : ∀ w, (isAgg t).run P w = .ok true w) (i : ∀ w, (sizeOf t).run P w = .ok ys.length w) :
    (Instr.loadAt t p).run P W = .ok (.agg ys.toArray) W := by
  obtain ⟨b, off, cs, T, fr, rfl, a, d⟩ := hp
  exact vZ g ys i (h.1 _ _ a) d
theorem mz {A : List (Nat × Obj)} (h : gd μ A W) {t : TypeId} {p y : Value} (hp : At μ p [y]) (g : ∀ w, (isAgg t).run P w = .ok false w) :
    (Instr.loadAt t p).run P W = .ok y W := by
  obtain ⟨b, off, cs, T, fr, rfl, a, d⟩ := hp
  exact wi g (h.1 _ _ a) (d 0 y rfl)
theorem aK {A : List (Nat × Obj)} (l : gd μ A W) {t : TypeId} {b off : Nat} {cs : Array Value} {T : TypeId} {fr : Nat × Nat} (m : (b, Obj.cells cs T fr) ∈ A) (ys : List Value) (p : (cs.toList.drop off).take ys.length = ys) (k : ∀ w, (isAgg t).run P w = .ok true w) (n : ∀ w, (sizeOf t).run P w = .ok ys.length w) : (Instr.loadAt t (.pointer (some ⟨b, off, none⟩))).run P W = .ok (.agg ys.toArray) W :=
  vZ k ys n (l.2 _ _ m) (fun j y h => by
    have i : j < ys.length := (List.getElem?a.1 h).1
    rw [← p, List.getElem?d i, List.getElem?g] at h
    simpa using h)
theorem bA {A : List (Nat × Obj)} (d : gd μ A W) {t : TypeId} {b off : Nat} {cs : Array Value} {T : TypeId} {fr : Nat × Nat} (g : (b, Obj.cells cs T fr) ∈ A) {y : Value} (h : cs[off]? = some y) (a : ∀ w, (isAgg t).run P w = .ok false w) : (Instr.loadAt t (.pointer (some ⟨b, off, none⟩))).run P W = .ok y W :=
  wi a (d.2 _ _ g) h
theorem dI {t : TypeId} {a : Array (Nat × Operand)} {b : Array (Nat × Value)} {v : Value} (h : a.map (fun (i, x) => (i, aS E x)) = b) (j : ∀ W, (Instr.build t b).run P W = .ok v W) : er P E ⟨d, .build t a, ty, pos, af, g⟩ W v W := by
  show (do pure (.value (← Instr.build t (a.map fun (i, x) => (i, aS E x)))) : Sem Next).run P W = _
  rw [h]; simp [j W]
theorem cN {t : TypeId} {z cs : Array Value} {fs : Array Field} {a : Array (Nat × Value)} {pl : Array (Nat × Nat)} (g : ∀ w, (zeroValue t).run P w = .ok (.agg z) w) (d : P.underlying t = some (.struct fs)) (hp : ∀ w, (fs.mapM fun f => do pure (f.offset, ← sizeOf f.type) : Sem (Array (Nat × Nat))).run P w = .ok pl w) (b : Instr.fill (pl[·]?) z a.toList = some cs) (W : World) : (Instr.build t a).run P W = .ok (.agg cs) W := by
  simp only [Instr.build, Sem.run_bind, g W, Result.andThen_ok, run_underlying d, Value.cells]
  rw [hp W]
  simp only [Result.andThen_ok, b, Sem.run_pure]
end
theorem yL {α : Type} : ∀ (a : Ask α) (w : World), w.drawn ≤ (w.ask a).2.drawn
  | .done a, w => by simp [World.ask]
  | .ask b range k, w => by
    unfold World.ask
    dsimp only
    split
    · exact yL (k 0) w
    · refine Nat.le_trans (Nat.le_succ w.drawn) ?_
      exact yL _ { w with drawn := w.drawn + 1 }
theorem GZ (w : World) (c : Sys) : w.drawn ≤ (w.sys c).2.drawn := by
  have h := yL (Kernel.perform c w.os) w
  unfold World.sys
  generalize w.ask (Kernel.perform c w.os) = r at *
  obtain ⟨⟨a, b⟩, d⟩ := r
  cases a <;> simp at h ⊢ <;> exact h
theorem Bg {p : Program} {w d : World} {a : Addr} {u : TypeId} {k : Addr} {v : Value} {b : Bool} {l : List Addr} (h : w.viewStore p a u k v b = .ok (d, l)) : d.drawn = w.drawn := by
  unfold World.viewStore at h
  simp only [bind, Except.bind, pure, Except.pure] at h
  split at h
  · cases h
  · split at h
    · cases h
    · split at h
      · split at h
        · cases h
        · split at h
          · cases h
          · cases h; rfl
      · cases h
theorem Cc {p : Program} {w g : World} {a : Addr} {v : Value} {b : Bool} {l : List Addr} (h : w.farStore p a v b = .ok (g, l)) : g.drawn = w.drawn := by
  unfold World.farStore at h
  split at h
  · split at h
    · d i; cases h; exact Bg i
    · cases h
  · cases h
theorem iu {α : Type} {p : Program} : ∀ (s : Sem α) (w d : World) (a : α), s.run p w = .ok a d → w.drawn ≤ d.drawn
  | .pure a, w, d, b, h => by simp only [Sem.run] at h; cases h; exact Nat.le_refl _
  | .load m a k, w, d, b, h => by
    simp only [Sem.run] at h
    split at h
    · exact iu _ _ _ _ h
    · split at h
      · exact iu _ _ _ _ h
      · cases h
  | .store m a v k, w, d, b, h => by
    have key : ∀ (r : Result α) j, r = .ok b d → (r = (match w.cell? a with
        | some _ => if w.frozen? a then .halt j w else k.run p (w.setCell a v)
        | none => match w.farStore p a v (m == .atomic) with
          | .ok (w, _) => k.run p w
          | .error h => .halt h w)) → w.drawn ≤ d.drawn := by
      intro r j t h
      rw [t] at h
      split at h
      · split at h
        · cases h
        · have := iu k _ _ _ h.symm
          simpa [World.setCell] using this
      · split at h
        · g l
          have i := iu k _ _ _ h.symm
          rw [Cc l] at i
          exact i
        · cases h
    cases v with
    | agg cs => simp only [Sem.run] at h; cases h
    | tuple cs => simp only [Sem.run] at h; cases h
    | _ => exact key _ _ h (by simp only [Sem.run]; rfl)
  | .new o k, w, d, b, h => by simp only [Sem.run] at h; have := iu (k _) _ _ _ h; exact this
  | .shape r k, w, d, b, h => by simp only [Sem.run] at h; exact iu _ _ _ _ h
  | .freeze a n k, w, d, b, h => by
    simp only [Sem.run] at h
    have := iu k _ _ _ h
    unfold World.freeze at this
    split at this <;> exact this
  | .frozen a k, w, d, b, h => by simp only [Sem.run] at h; exact iu _ _ _ _ h
  | .getObj r k, w, d, b, h => by
    simp only [Sem.run] at h
    split at h <;> try (cases h; done)
    exact iu _ _ _ _ h
  | .setObj r o k, w, d, b, h => by
    simp only [Sem.run] at h
    split at h <;> try (cases h; done)
    have := iu k _ _ _ h
    exact this
  | .choose q k, w, d, b, h => by
    simp only [Sem.run] at h
    split at h
    · exact iu _ _ _ _ h
    · exact Nat.le_trans (Nat.le_succ _) (iu _ _ _ _ h)
  | .sys c k, w, d, b, h => by
    simp only [Sem.run] at h
    exact Nat.le_trans (GZ w c) (iu _ _ _ _ h)
  | .program k, w, d, b, h => by simp only [Sem.run] at h; exact iu _ _ _ _ h
  | .mark m k, w, d, b, h => by simp only [Sem.run] at h; exact iu k _ _ _ h
  | .halt x, w, d, b, h => by simp only [Sem.run] at h; cases h
end Go.Proofs.YtmlncblocfcmiaaGreat
namespace Go.Proofs.YtmlncblocfcmiaaGreat
open Go.RowKit
variable {dd : Bool}
section
variable {P : Program} {n : Nat} {Q : kj} {E : Nat → Value} {W : World} {ops : Array Oper} {rest : List Oper}
  {d : Option Nat} {ty : TypeId} {pos : String} {af : Array Edge} {g : Option (Nat × Bool)}
  {F : Nat → Prop} {w : World} {μ : bW} {L : List (Nat × Obj)}
def fQ (P : Program) (E : Nat → Value) (o : Oper) (W : World) (K : Value → World → Prop) : Prop :=
  (∃ v W', (execOp (aS E) o).run P W = .ok (.value v) W' ∧ K v W') ∨ (∃ W', (execOp (aS E) o).run P W = .ok .skip W' ∧ K undef W') ∨
  (∃ f args, (execOp (aS E) o).run P W = .ok (.enter f args) W ∧ Calls P f args W fun e a => ∃ v, e = .returned v ∧ K v a)
theorem fQ.mono {o : Oper} {K K' : Value → World → Prop} (h : fQ P E o W K) (d : ∀ v W', K v W' → K' v W') : fQ P E o W K' := by
  rcases h with ⟨v, W', a, b⟩ | ⟨W', a, b⟩ | ⟨f, args, a, b⟩
  · exact .inl ⟨v, W', a, d _ _ b⟩
  · exact .inr (.inl ⟨W', a, d _ _ b⟩)
  · exact .inr (.inr ⟨f, args, a, Calls.mono b (fun _ _ ⟨v, g, i⟩ => ⟨v, g, d _ _ i⟩)⟩)
theorem KP {o : Oper} {dd : Nat} (hw : mC n ops E o) (g : o.dst = some dd) (i : dd < n) (h : fQ P E o W fun v W' => LW P n ops Q rest (gB E dd v) W') : LW P n ops Q (o :: rest) E W := by
  rcases h with ⟨v, W', b, d⟩ | ⟨W', b, d⟩ | ⟨f, args, b, d⟩
  · exact Hi hw g i b d
  · intro a ha
    unfold wpList
    rw [if_pos (hw.of ha)]
    refine .inl ?_
    unfold Oper.wp
    rw [ha.eval, b, Oper.upon_skip, g]
    exact d _ (ha.put i _)
  · exact IG hw g i b d
theorem Mo {o : Oper} (hw : mC n ops E o) (g : o.dst = none) (h : fQ P E o W fun _ W' => LW P n ops Q rest E W') : LW P n ops Q (o :: rest) E W := by
  rcases h with ⟨v, W', b, d⟩ | ⟨W', b, d⟩ | ⟨f, args, b, d⟩
  · intro a ha
    unfold wpList
    rw [if_pos (hw.of ha)]
    refine .inl ?_
    unfold Oper.wp
    rw [ha.eval, b, Oper.upon_value, g]
    exact d _ (ha.sR _)
  · exact IC hw g b d
  · intro a ha
    unfold wpList
    rw [if_pos (hw.of ha)]
    refine .inl ?_
    unfold Oper.wp
    rw [ha.eval, b, Oper.upon_enter]
    refine Calls.mono d ?_
    rintro e j ⟨v, rfl, i⟩
    simp only [g]
    exact i _ (ha.sR _)
theorem bX {K : Value → World → Prop} {t : TypeId} {x : Operand} {v : Value} (a : ST dd F w W μ L) (i : aS E x = v) (h : ∀ W' b, ST dd F w W' μ ((b, .cells v.cells t (0, 0)) :: L) → K (.pointer (some ⟨b, 0, none⟩)) W') : fQ P E ⟨d, .box t x, ty, pos, af, g⟩ W K :=
  .inl ⟨.pointer (some ⟨W.heap.size, 0, none⟩), W.alloc (.cells v.cells t (0, 0)), by
      show (do pure (.value (← Instr.box t (aS E x))) : Sem Next).run P W = _
      rw [i]
      simp [Instr.box, newVar, newRow, newObj, Sem.run], h _ _ (a.alloc _)⟩
theorem bR {K : Value → World → Prop} {t : TypeId} {z : Value} (a : ST dd F w W μ L) (i : ∀ w, (zeroValue t).run P w = .ok z w) (h : ∀ W' b, ST dd F w W' μ ((b, .cells z.cells t (0, 0)) :: L) → K (.pointer (some ⟨b, 0, none⟩)) W') : fQ P E ⟨d, .alloc t, ty, pos, af, g⟩ W K :=
  .inl ⟨.pointer (some ⟨W.heap.size, 0, none⟩), W.alloc (.cells z.cells t (0, 0)), by
      show (do pure (.value (← Instr.alloc t true (.tuple #[]))) : Sem Next).run P W = _
      simp [Instr.alloc, i W, newVar, newRow, newObj, Sem.run], h _ _ (a.alloc _)⟩
theorem BV {t e : TypeId} {m k : Nat} {z : Value} {d : Array (Nat × Value)} {cs : Array Value} (h : P.underlying t = some (.slice e)) (g : ∀ w, (sizeOf e).run P w = .ok k w) (j : ∀ w, (zeroValue e).run P w = .ok z w) (hm : m * k ≤ 16777216) (a : Instr.fill (fun i => some (i * k, k)) ((Array.range (m * k)).map (fun i => (if m * k = 0 then (#[] : Array Value) else z.cells)[i % (if m * k = 0 then (#[] : Array Value) else z.cells).size]!)) d.toList = some cs) (W : World) :
    (Instr.buildSlice t m d).run P W = .ok (.slice (some ⟨W.heap.size, 0, none⟩) m m) (W.alloc (.cells cs e (0, 0))) := by
  simp only [Instr.buildSlice, Sem.run_bind, run_underlying h, Result.andThen_ok, g W]
  rw [if_neg (by omega)]
  by_cases b : m * k = 0
  · simp only [b, if_true] at a ⊢
    simp only [Sem.run_bind, Sem.run_pure, Result.andThen_ok, a]
    simp [newRow, newObj, Sem.run]
  · simp only [b, if_false] at a ⊢
    simp only [Sem.run_bind, j W, Sem.run_pure, Result.andThen_ok, a]
    simp [newRow, newObj, Sem.run]
theorem bJ {K : Value → World → Prop} {t e : TypeId} {m : Nat} {j : Array (Nat × Operand)} {k : Array (Nat × Value)} {cs : Array Value} (a : ST dd F w W μ L) (l : j.map (fun (i, x) => (i, aS E x)) = k) (n : ∀ W, (Instr.buildSlice t m k).run P W = .ok (.slice (some ⟨W.heap.size, 0, none⟩) m m) (W.alloc (.cells cs e (0, 0)))) (h : ∀ W' b, ST dd F w W' μ ((b, .cells cs e (0, 0)) :: L) → K (.slice (some ⟨b, 0, none⟩) m m) W') : fQ P E ⟨d, .buildSlice t m j, ty, pos, af, g⟩ W K :=
  .inl ⟨.slice (some ⟨W.heap.size, 0, none⟩) m m, W.alloc (.cells cs e (0, 0)), by
      show (do pure (.value (← Instr.buildSlice t m (j.map fun (i, x) => (i, aS E x)))) : Sem Next).run P W = _
      rw [l]
      simp [n W], h _ _ (a.alloc _)⟩
theorem ST.store {A B : List (Nat × Obj)} {b : Nat} {cs : Array Value} {t : TypeId} (g : ST dd F w W μ (A ++ (b, .cells cs t (0, 0)) :: B)) (a : Array Value) :
    ST dd F w (W.setRow b a) μ (A ++ (b, .cells a t (0, 0)) :: B) := by
  have h := (g.box b _ (by simp : (b, Obj.cells cs t (0, 0)) ∈ A ++ (b, .cells cs t (0, 0)) :: B)).1
  refine g.put ⟨rfl, rfl, rfl, Nat.le_refl _, by simp [World.setRow]⟩ (fun k i => ?_) (setRow_heap W b cs a t (0, 0) h)
  simp only [World.setRow, Array.getElem?d]
  rw [if_neg (fun e => i e.symm)]
theorem te (P : Program) {W : World} {t : TypeId} {b off : Nat} {cs : Array Value} {T : TypeId} (v : Value) (d : ∀ w, (sizeOf t).run P w = .ok v.cells.size w) (a : ∀ u ∈ v.cells.toList, u.oneCell' = true) (g : W.heap[b]? = some (.cells cs T (0, 0))) (h : off + v.cells.size ≤ cs.size) : (Instr.storeAt t (.pointer (some ⟨b, off, none⟩)) v).run P W = .ok () (W.setRow b (cs.toList.take off ++ v.cells.toList ++ cs.toList.drop (off + v.cells.size)).toArray) := by
  have := run_storeCells_at (P := P) b off T v.cells.toList 0 cs W g (by simpa using h) a
  simp [Instr.storeAt, Instr.sureAddr, storeVar, d W]
  simpa using this
theorem JL {K : Value → World → Prop} (A : List (Nat × Obj)) {B : List (Nat × Obj)} {t : TypeId} {x y : Operand} (v : Value) {b off : Nat} {cs : Array Value} {T : TypeId} (a : Array Value) (i : ST dd F w W μ (A ++ (b, .cells cs T (0, 0)) :: B)) (p : aS E x = .pointer (some ⟨b, off, none⟩)) (q : aS E y = v) (k : ∀ w, (sizeOf t).run P w = .ok v.cells.size w) (j : ∀ u ∈ v.cells.toList, u.oneCell' = true) (n : off + v.cells.size ≤ cs.size) (m : (cs.toList.take off ++ v.cells.toList ++ cs.toList.drop (off + v.cells.size)).toArray = a) (h : ∀ W', ST dd F w W' μ (A ++ (b, .cells a T (0, 0)) :: B) → K undef W') : fQ P E ⟨d, .store t x y, ty, pos, af, g⟩ W K :=
  .inr (.inl ⟨W.setRow b a, by
      show (do Instr.storeAt t (aS E x) (aS E y); pure .skip : Sem Next).run P W = _
      have l := (i.box b _ (by simp : (b, Obj.cells cs T (0, 0)) ∈ A ++ (b, .cells cs T (0, 0)) :: B)).1
      rw [p, q]
      simp only [Sem.run_bind, te P v k j l n, m, Result.andThen_ok, Sem.run_pure], h _ (i.store a)⟩)
def bF (dd : Bool) (P : Program) (f : FuncId) (args : List Value) (w : World) (v : Value) : Prop := Calls P f args.toArray w fun e a => e = .returned v ∧ Ex dd w a
theorem HI {f : FuncId} {fv : Operand} {ax : Array Operand} {ats : Array TypeId} {caps args : Array Value} (a : aS E fv = .func (.func f) #[] caps) (he : ∀ args w, (callFunc f args).run P w = .ok (.enter f args) w) (ha : ax.map (aS E) ++ caps = args) :
    (execOp (aS E) ⟨d, .call ⟨.value fv, ax, ats⟩, ty, pos, af, g⟩).run P W = .ok (.enter f args) W := by
  show (do let d ← resolve (aS E) ⟨.value fv, ax, ats⟩ ty; invoke d.target d.args : Sem Next).run P W = _
  rw [← ha]
  simp only [resolve, a, Deferred.ofValue, Sem.run_bind, Sem.run_pure, Result.andThen_ok, invoke]
  simp [he]
theorem zu {K : Value → World → Prop} {f : FuncId} {fv : Operand} {ax : Array Operand} {ats : Array TypeId} {caps args : Array Value} (a : aS E fv = .func (.func f) #[] caps) (he : ∀ args w, (callFunc f args).run P w = .ok (.enter f args) w) (ha : ax.map (aS E) ++ caps = args) (h : Calls P f args W fun e b => ∃ v, e = .returned v ∧ K v b) : fQ P E ⟨d, .call ⟨.value fv, ax, ats⟩, ty, pos, af, g⟩ W K :=
  .inr (.inr ⟨f, args, HI a he ha, h⟩)
theorem zg {K : Value → World → Prop} {f : FuncId} {fv : Operand} {ax : Array Operand} {ats : Array TypeId} {args : List Value} {v : Value} (a : ST dd F w W μ L) (k : aS E fv = .func (.func f) #[] #[]) (he : ∀ args w, (callFunc f args).run P w = .ok (.enter f args) w) (ha : (ax.map (aS E) ++ (#[] : Array Value)) = args.toArray) (j : bF dd P f args W v) (h : ∀ W', ST dd F w W' μ L → K v W') : fQ P E ⟨d, .call ⟨.value fv, ax, ats⟩, ty, pos, af, g⟩ W K :=
  zu k he ha (Calls.mono j (fun _ _ ⟨b, i⟩ => ⟨v, b, h _ (a.DI i)⟩))
def bG {α : Type} (e : TypeId) (enc : α → List Value) (k : Nat) (v : Value) (l : List α) (R : List (Nat × Obj)) : Prop :=
  (v = .slice none 0 0 ∧ l = [] ∧ R = []) ∨
  ∃ g cap cur, v = .slice (some ⟨g, 0, none⟩) l.length cap ∧ R = [(g, .cells cur e (0, 0))] ∧ l.length ≤ cap ∧ cap ≤ maxLen ∧ cur.size = cap * k ∧ cur.toList.take (l.length * k) = (l.map enc).flatten
theorem jo {α : Type} {enc : α → List Value} {k : Nat} (a : ∀ x, (enc x).length = k) : ∀ l : List α, (l.map enc).flatten.length = l.length * k
  | [] => by simp
  | x :: l => by simp [jo a l, a x, Nat.add_mul, Nat.add_comm]
theorem pS {α : Type} {enc : α → List Value} {k : Nat} (n : ∀ x, (enc x).length = k) : ∀ (l : List α) (i : Nat) (x : α), l[i]? = some x → ∀ j y, (enc x)[j]? = some y → (l.map enc).flatten[i * k + j]? = some y
  | [], i, x, h => by cases h
  | z :: l, 0, x, h => by
    simp at h; subst h
    intro j y m
    have p : j < (enc z).length := (List.getElem?b.1 m).1
    simp [List.getElem?g, p]
    rw [List.getElem?d p] at m
    simpa using m
  | z :: l, i + 1, x, h => by
    intro j y m
    have := pS n l i x (by simpa using h) j y m
    simp only [List.map_cons, List.flatten_cons]
    rw [List.getElem?a (by rw [n z]; have := Nat.le_mul_of_pos_left k (Nat.succ_pos i); simp [Nat.add_mul] at *; omega), n z]
    rw [show (i + 1) * k + j - k = i * k + j by rw [Nat.add_mul]; omega]
    exact this
theorem AL {α : Type} {enc : α → List Value} {k : Nat} (d : ∀ x, (enc x).length = k) : ∀ (l : List α) (q : Nat) (y : Value), (l.map enc).flatten[q]? = some y → ∃ i x j, l[i]? = some x ∧ (enc x)[j]? = some y ∧ q = i * k + j
  | [], q, y, h => by simp at h
  | z :: l, q, y, h => by
    simp only [List.map_cons, List.flatten_cons] at h
    by_cases n : q < k
    · rw [List.getElem?b (by rw [d]; exact n)] at h
      exact ⟨0, z, q, rfl, h, by simp⟩
    · rw [List.getElem?a (by rw [d]; omega), d] at h
      obtain ⟨i, x, j, g, m, p⟩ := AL d l (q - k) y h
      exact ⟨i + 1, x, j, by simpa using g, m, by rw [Nat.add_mul]; omega⟩
theorem bG.nil {α : Type} (e : TypeId) (enc : α → List Value) (k : Nat) : bG e enc k (.slice none 0 0) [] [] := .inl ⟨rfl, rfl, rfl⟩
theorem bG.sl {α : Type} {e : TypeId} {enc : α → List Value} {k : Nat} {v : Value} {l : List α} {R : List (Nat × Obj)} {m : bW} (h : bG e enc k v l R) (p : ∀ x, (enc x).length = k) (hm : ∀ b o, (b, o) ∈ R → m b = some o) : Sl (Pl enc) k m v l := by
  rcases h with ⟨rfl, rfl, rfl⟩ | ⟨g, cap, cur, rfl, rfl, q, r, w, s⟩
  · exact Sl.nil _ _ _
  · refine ⟨_, cap, rfl, q, r, fun _ => ⟨g, 0, cur, e, (0, 0), rfl, hm _ _ (by simp), fun i x t => ⟨enc x, p x, rfl, fun j y u => ?_⟩⟩⟩
    have := pS p l i x t j y u
    rw [← s] at this
    have n : i * k + j < l.length * k := by
      have := (List.getElem?a.1 this).1
      simp at this; omega
    rw [List.getElem?d n] at this
    simpa using this
theorem bG.len {α : Type} {e : TypeId} {enc : α → List Value} {k : Nat} {v : Value} {l : List α} {R : List (Nat × Obj)} (h : bG e enc k v l R) : l.length ≤ 9223372036854775807 := by
  rcases h with ⟨rfl, rfl, rfl⟩ | ⟨g, cap, cur, rfl, rfl, b, a, d, i⟩
  · simp
  · unfold maxLen at a; omega
theorem bG.fr {α : Type} {e : TypeId} {enc : α → List Value} {k : Nat} {v : Value} {l : List α} {R X Y : List (Nat × Obj)} (h : bG e enc k v l R) (a : ST dd cC w W μ (X ++ (R ++ Y))) : Fr w.heap.size v := by
  rcases h with ⟨rfl, rfl, rfl⟩ | ⟨g, cap, cur, rfl, rfl, i, j, m, n⟩
  · exact Fr.nil _
  · intro b d
    simp [Value.ownBlock] at d
    subst d
    rcases (a.box g _ (by simp; exact .inr (.inl rfl))).2.2 with h | h
    · exact h
    · exact h.elim
theorem bG.lit {α : Type} {e : TypeId} {enc : α → List Value} {k b m : Nat} {l : List α} {cs : Array Value} (hm : l.length = m) (d : m ≤ maxLen) (g : cs.toList = (l.map enc).flatten) (a : cs.size = m * k) : bG e enc k (.slice (some ⟨b, 0, none⟩) m m) l [(b, .cells cs e (0, 0))] := by
  subst hm
  refine .inr ⟨b, _, cs, rfl, rfl, Nat.le_refl _, d, a, ?_⟩
  rw [← g, ← a]
  exact List.take_of_length_le (by rw [Array.length_toList]; exact Nat.le_refl _)
def eS {α : Type} (a : Nat) (l m : List α) : Option (List α) := if (l.length + m.length) * a ≤ 140737488355328 ∧ l.length + m.length ≤ maxLen then some (l ++ m) else none
theorem Ef {K : Value → World → Prop} {α : Type} {e t : TypeId} {enc : α → List Value} {k a5 : Nat} {z v vs : Value} {l m r : List α} {R : List (Nat × Obj)} (X : List (Nat × Obj)) {Y : List (Nat × Obj)} {x y : Operand} {i : TypeInfo} (p : ST dd F w W μ (X ++ (R ++ Y))) (hk : ∀ x, (enc x).length = k) (ay : 0 < k) (M : ∀ x, ∀ u ∈ enc x, u.oneCell' = true) (ht : P.underlying t = some (.slice e)) (hi : P.info? e = some i) (hz : i.zero = some z) (b1 : z.cells.size = k) (az : i.size = k) (av : i.bytes = a5) (hx : aS E x = v) (hy : aS E y = vs) (hR : bG e enc k v l R) (hs : Sl (Pl enc) k (hp W) vs m) (n : eS a5 l m = some r) (h : ∀ W' v' R', ST dd F w W' μ (X ++ (R' ++ Y)) → bG e enc k v' r R' → K v' W') : fQ P E ⟨d, .call ⟨.builtin .append, #[x, y], #[t, t]⟩, ty, pos, af, g⟩ W K := by
  unfold eS at n
  split at n
  case isFalse => cases n
  aa ab
  cases n
  have a4 : ∀ (V : Value) (W' : World), (Builtin.append_ #[t, t] ty #[v, vs]).run P W = .ok V W' → (execOp (aS E) ⟨d, .call ⟨.builtin .append, #[x, y], #[t, t]⟩, ty, pos, af, g⟩).run P W = .ok (.value V) W' := by
    intro V W' hV
    show (do let d ← resolve (aS E) ⟨.builtin .append, #[x, y], #[t, t]⟩ ty; invoke d.target d.args : Sem Next).run P W = _
    simp [resolve, invoke, builtin, hx, hy, hV]
  obtain ⟨A, c, rfl, b4, b5, aw⟩ := hs
  have a3 : W.ownsRow 0 e k v l.length (l.map enc).flatten := by
    refine ⟨jo hk l, ?_⟩
    rcases hR with ⟨rfl, rfl, rfl⟩ | ⟨g, cap, cur, rfl, rfl, M, h2, h3, h4⟩
    · exact .inl ⟨rfl, rfl⟩
    · exact .inr ⟨g, cap, cur, rfl, Nat.zero_le _, (p.box g _ (by simp)).1, M, h2, h3, h4⟩
  have an : m.length = 0 ∨ ∃ ad, A = some ad ∧ ∀ j u, (m.map enc).flatten[j]? = some u → W.cell? (ad.add j) = some u := by
    rcases Nat.eq_zero_or_pos m.length with L | L
    · exact .inl L
    · obtain ⟨b, off, cs, T, fr, rfl, h6, h7⟩ := aw L
      refine .inr ⟨⟨b, off, none⟩, rfl, fun j u hu => ?_⟩
      obtain ⟨i, x, q, h8, h9, rfl⟩ := AL hk m j u hu
      obtain ⟨ys, _, ap, aq⟩ := h7 i x h8
      cases ap
      rw [Addr.add_lit, cell_of_row W b (off + (i * k + q)) cs T fr h6, ← Nat.add_assoc]
      exact aq q u h9
  have al : ∀ u ∈ (m.map enc).flatten, u.oneCell' = true := by
    intro u hu
    obtain ⟨ys, b0, aE⟩ := List.mem_flatten.1 hu
    obtain ⟨x, _, rfl⟩ := List.mem_map.1 b0
    exact M x u aE
  by_cases ai : m.length = 0
  · have hm : m = [] := List.eq_nil_of_length_eq_zero ai
    subst hm
    have hr : (Builtin.append_ #[t, t] ty #[v, .slice A 0 c]).run P W = .ok v W := by
      rcases a3.2 with ⟨rfl, L⟩ | ⟨g, cap, cur, rfl, _, hg, aj, _, b6, _⟩
      · cases A with
        | none => simp [Builtin.append_, run_underlying ht, sizeOf, typeInfo, hi, Builtin.lenOf, Builtin.firstCells]
        | some ad => simp [Builtin.append_, run_underlying ht, sizeOf, typeInfo, hi, Builtin.lenOf, Builtin.firstCells, loadCells, loadCellsFrom]
      · cases A with
        | none => simp [Builtin.append_, run_underlying ht, sizeOf, typeInfo, hi, Builtin.lenOf, Builtin.firstCells, aj, storeCells]
        | some ad => simp [Builtin.append_, run_underlying ht, sizeOf, typeInfo, hi, Builtin.lenOf, Builtin.firstCells, loadCells, loadCellsFrom, aj, storeCells]
    exact .inl ⟨v, W, a4 _ _ (by simpa using hr), by simpa using h W v R p (by simpa using hR)⟩
  rcases an with L | ⟨ad, rfl, a0⟩
  · exact absurd L ai
  obtain ⟨v', W', hr, a8, s, b3, J⟩ := run_append_own_at (P := P) W 0 t ty e i z k a5 ht hi hz az av b1 ay v l.length (l.map enc).flatten a3 ad m.length c (m.map enc).flatten (jo hk m) a0 al ab.2 ab.1 (Nat.zero_le _)
  have a6 := iu _ _ _ _ hr
  refine .inl ⟨v', W', a4 _ _ hr, ?_⟩
  have hlen : (l ++ m).length = l.length + m.length := by simp
  rcases a8.2 with ⟨_, L⟩ | ⟨Q, a1, a2, rfl, _, a7, b2, ae, ag, ao⟩
  · omega
  have a9 : bG e enc k (.slice (some ⟨Q, 0, none⟩) (l.length + m.length) a1) (l ++ m) [(Q, .cells a2 e (0, 0))] :=
    .inr ⟨Q, a1, a2, by rw [hlen], rfl, by omega, ae, ag, by rw [hlen, ao]; simp⟩
  refine h W' _ _ ?_ a9
  have ak := p.nd
  rcases hR with ⟨rfl, rfl, rfl⟩ | ⟨g, cap, cur, rfl, rfl, q1, q2, q3, q4⟩
  · -- nil: a new block
    have U : W.heap.size ≤ Q := by
      rcases J with h | h <;> simp [Value.ownBlock] at h
      omega
    have hex : Ex dd W W' := ⟨s.os, s.tape, s.output, nu.of a6, s.size, fun b n => s.block b n (by simp [Value.ownBlock])⟩
    have M := p.DI hex
    refine ⟨M.os, M.tape, M.output, M.drawn, M.size, M.eO, M.mem, fun b o n => ?_, ?_⟩
    · simp only [List.mem_append, List.mem_singleton] at n
      rcases n with n | n | n
      · exact M.box b o (by simp [n])
      · cases n
        refine ⟨a7, ?_, .inl (Nat.le_trans p.size U)⟩
        cases hm : μ Q with
        | none => rfl
        | some x => have := p.zi hm; omega
      · exact M.box b o (by simp [n])
    · simp only [List.nil_append, List.map_append, List.map_cons, List.singleton_append] at ak ⊢
      refine (List.Perm.nodup_iff List.perm_middle).2 (List.nodup_cons.2 ⟨fun hm => ?_, ak⟩)
      rw [← List.map_append] at hm
      obtain ⟨⟨b, o⟩, n, I⟩ := List.mem_map.1 hm
      have au : (b, o) ∈ X ++ ([] ++ Y) := by simpa using n
      have := p.Bc au
      simp at I
      omega
  · by_cases ah : Q = g
    · subst ah
      have L : ST dd F w W μ (X ++ (Q, Obj.cells cur e (0, 0)) :: Y) := by simpa using p
      have hold : ∀ b, b < W.heap.size → b ≠ Q → W'.heap[b]? = W.heap[b]? := fun b n G => s.block b n (by simp [Value.ownBlock]; exact G)
      have D := L.nd
      simp only [List.map_append, List.map_cons] at D
      have G : ∀ b o, (b, o) ∈ X ++ Y → b ≠ Q := fun b o n I => by
        subst I
        rcases List.mem_append.1 n with n | n
        · exact (List.nodup_append.1 D).2.2 b (List.mem_map.2 ⟨_, n, rfl⟩) b (by simp) rfl
        · exact (List.nodup_cons.1 (List.nodup_append.1 D).2.1).1 (List.mem_map.2 ⟨_, n, rfl⟩)
      have O := L.box Q (Obj.cells cur e (0, 0)) (by simp)
      refine ⟨s.os.trans p.os, s.tape.trans p.tape, s.output.trans p.output, nu.trans p.drawn (nu.of a6), Nat.le_trans p.size s.size, fun b n hF => ?_, fun b o n => ?_, fun b o n => ?_, by simpa using D⟩
      · rw [hold b (Nat.lt_of_lt_of_le n p.size) (fun I => by subst I; rcases O.2.2 with h | h; omega; exact hF h)]
        exact p.eO b n hF
      · rw [hold b (p.zi n) (fun I => by subst I; rw [O.2.1] at n; cases n)]
        exact p.mem b o n
      · simp only [List.mem_append, List.mem_singleton] at n
        rcases n with n | n | n
        · obtain ⟨Z, r2⟩ := p.box b o (by simp [n])
          exact ⟨by rw [hold b (gC Z) (G b o (by simp [n]))]; exact Z, r2⟩
        · cases n; exact ⟨a7, O.2⟩
        · obtain ⟨Z, r2⟩ := p.box b o (by simp [n])
          exact ⟨by rw [hold b (gC Z) (G b o (by simp [n]))]; exact Z, r2⟩
    · have U : W.heap.size ≤ Q := by
        rcases J with h | h <;> simp [Value.ownBlock] at h
        · exact absurd h ah
        · omega
      have L : ST dd F w W μ (X ++ (g, Obj.cells cur e (0, 0)) :: Y) := by simpa using p
      have O := L.box g (Obj.cells cur e (0, 0)) (by simp)
      have D := L.nd
      simp only [List.map_append, List.map_cons] at D
      have G : ∀ b o, (b, o) ∈ X ++ Y → b ≠ g := fun b o n I => by
        subst I
        rcases List.mem_append.1 n with n | n
        · exact (List.nodup_append.1 D).2.2 b (List.mem_map.2 ⟨_, n, rfl⟩) b (by simp) rfl
        · exact (List.nodup_cons.1 (List.nodup_append.1 D).2.1).1 (List.mem_map.2 ⟨_, n, rfl⟩)
      have hold : ∀ b, b < W.heap.size → b ≠ g → W'.heap[b]? = W.heap[b]? := fun b n G => s.block b n (by simp [Value.ownBlock]; exact G)
      refine ⟨s.os.trans p.os, s.tape.trans p.tape, s.output.trans p.output, nu.trans p.drawn (nu.of a6), Nat.le_trans p.size s.size, fun b n hF => ?_, fun b o n => ?_, fun b o n => ?_, ?_⟩
      · rw [hold b (Nat.lt_of_lt_of_le n p.size) (fun I => by subst I; rcases O.2.2 with h | h; omega; exact hF h)]
        exact p.eO b n hF
      · rw [hold b (p.zi n) (fun I => by subst I; rw [O.2.1] at n; cases n)]
        exact p.mem b o n
      · simp only [List.mem_append, List.mem_singleton] at n
        rcases n with n | n | n
        · obtain ⟨Z, r2⟩ := p.box b o (by simp [n])
          exact ⟨by rw [hold b (gC Z) (G b o (by simp [n]))]; exact Z, r2⟩
        · cases n
          refine ⟨a7, ?_, .inl (Nat.le_trans p.size U)⟩
          cases hm : μ Q with
          | none => rfl
          | some x => have := p.zi hm; omega
        · obtain ⟨Z, r2⟩ := p.box b o (by simp [n])
          exact ⟨by rw [hold b (gC Z) (G b o (by simp [n]))]; exact Z, r2⟩
      · have ar : (X.map (·.1) ++ Y.map (·.1)).Nodup := (List.nodup_cons.1 ((List.Perm.nodup_iff List.perm_middle).1 D)).2
        simp only [List.map_append, List.map_cons, List.singleton_append]
        refine (List.Perm.nodup_iff List.perm_middle).2 (List.nodup_cons.2 ⟨fun hm => ?_, ar⟩)
        rw [← List.map_append] at hm
        obtain ⟨⟨b, o⟩, n, I⟩ := List.mem_map.1 hm
        have := p.Bc (b := b) (o := o) (by rcases List.mem_append.1 n with h | h <;> simp [h])
        simp at I
        omega
end
end Go.Proofs.YtmlncblocfcmiaaGreat
namespace Go.Proofs.YtmlncblocfcmiaaGreat
open Go.RowKit
def xt (l : List Value) : Nat → Value := fun t => l.getD t undef
def rp (P : Program) (fn : Func) (R : Ending → World → Prop) : kj
  | .normal, E, W | .ret, E, W => ∃ v, (∀ tmps : Array Value, (∀ t, tmps.getD t undef = E t) → (results fn tmps).run P W = .ok v W) ∧ R (.returned v) W
  | _, _, _ => False
theorem tj {P : Program} {f : FuncId} {fn : Func} {c : Code} {args : List Value} {w : World} {R : Ending → World → Prop} {n : Nat} (x : P.funcs[f]? = some fn) (u : fn.body = some c) (y : fn.ntmps = n) (ha : args.length ≤ n) (h : CW P n c (rp P fn R) (xt args) w) : Calls P f args.toArray w R := by
  refine calls_of_wp x u ?_
  have q : Ag n { tmps := args.toArray ++ Array.replicate (fn.ntmps - args.toArray.size) undef, defers := [] } (xt args) := by
    refine ⟨by simp; omega, rfl, fun t => ?_⟩
    simp only [xt, Array.getD_eq_getD_getElem?, List.getD_eq_getElem?m, Array.getElem?k, Array.getElem?b, List.size_toArray, List.getElem?i]
    by_cases s : t < args.length
    · rw [if_pos s]
    · rw [if_neg s, List.getElem?g (by omega)]
      split <;> simp
  refine wp_mono (h _ q) (fun e a z j => ?_)
  cases e with
  | normal =>
    obtain ⟨E, d, v, r, p⟩ := j
    exact ⟨d.2.1, v, r _ d.2.2, p⟩
  | ret =>
    obtain ⟨E, d, v, r, p⟩ := j
    exact ⟨d.2.1, v, r _ d.2.2, p⟩
  | exit id => obtain ⟨E, d, h⟩ := j; exact h.elim
  | goto l => obtain ⟨E, d, h⟩ := j; exact h.elim
  | panic c => exact j.elim
  | outgrown => exact j.elim
section
variable {P : Program} {fn : Func} {R : Ending → World → Prop} {E : Nat → Value} {W : World}
theorem dH {r : Tmp} {v : Value} (a : fn.results = #[.tmp r]) (d : E r = v) (h : R (.returned v) W) : rp P fn R .ret E W :=
  ⟨v, fun tmps b => by rw [results_tmp a, b, d], h⟩
theorem uZ {r s : Tmp} {v u : Value} (b : fn.results = #[.tmp r, .tmp s]) (d : E r = v) (hu : E s = u) (h : R (.returned (.tuple #[v, u])) W) : rp P fn R .ret E W :=
  ⟨.tuple #[v, u], fun tmps a => by rw [results_tmp2 b, a, a, d, hu], h⟩
theorem iA (a : fn.results = #[]) (h : R (.returned (.tuple #[])) W) : rp P fn R .ret E W :=
  ⟨.tuple #[], fun tmps _ => by rw [results_none a], h⟩
theorem fz {r : Tmp} {t : TypeId} {a : Addr} {v : Value} (d : fn.results = #[.cell r t]) (j : E r = .pointer (some a)) (i : (Instr.loadAt t (.pointer (some a))).run P W = .ok v W) (h : R (.returned v) W) : rp P fn R .ret E W :=
  ⟨v, fun tmps g => by
    have b : (loadVar t a).run P W = .ok v W := by simpa [Instr.loadAt, Instr.sureAddr] using i
    simp [results, d, g, j, asAddr, b], h⟩
theorem jR (h : rp P fn R .ret E W) : rp P fn R .normal E W := h
end
section
variable {Q : kj} {E : Nat → Value} {W : World} {K : (Nat → Value) → World → Prop} {id j : Nat}
theorem bY (h : Q .normal E W) : pT id Q .normal E W := h
theorem eF (h : Q .ret E W) : pT id Q .ret E W := h
theorem ke (h : Q .normal E W) : pT id Q (.exit id) E W := by simp [pT]; exact h
theorem Ks (a : (j = id) = False) (h : Q (.exit j) E W) : pT id Q (.exit j) E W := by simp only [pT, a, if_false]; exact h
theorem aR (h : K E W) : jZ K Q .normal E W := h
theorem bU (h : Q .ret E W) : jZ K Q .ret E W := h
theorem fB (h : Q (.exit j) E W) : jZ K Q (.exit j) E W := h
end
theorem GW {i N : Nat} (b : i < N) (a : N ≤ 9223372036854775807) : IntKind.i64.wrap ((i : Int) + 1) = ((i + 1 : Nat) : Int) := by
  rw [IntWalk.i64_in _ (by omega)]
  omega
theorem cK {P : Program} {n : Nat} {Q : kj} {E : Nat → Value} {W : World} {g s r2 r6 p q A u : Nat} {t1 t2 t3 t4 t5 t6 t7 : TypeId} {Y Z p3 : String} {D F G : Array Edge} {body : Code} (I : Nat → (Nat → Value) → World → Prop) (N : Nat) (R : N ≤ 9223372036854775807) (J : I 0 E W) (T : p < n) (U : u < n) (z : q < n) (O : ∀ i E W, I i E W → E q = .int .i64 (i : Nat) ∧ E A = .int .i64 (N : Nat)) (round : ∀ i E W, i < N → I i E W → CW P n (.block s body) (jZ (fun E' W' => E' q = .int .i64 (i : Nat) ∧ I (i + 1) (gB (gB E' u (.int .i64 ((i + 1 : Nat) : Int))) q (.int .i64 ((i + 1 : Nat) : Int))) W') (pT g Q)) (gB E p (.bool true)) W) (done : ∀ E W, I N E W → Q .normal (gB E p (.bool false)) W) :
    CW P n (.block g (.loop (.seq (.region r2 #[⟨some p, .binOp .lss t1 (.tmp q) (.tmp A) t2, t3, Y, D, none⟩] false)
      (.seq (.cond (.tmp p) .skip (.exit g)) (.seq (.block s body)
        (.region r6 #[⟨some u, .binOp .add t4 (.tmp q) (.const (.int .i64 1)) t5, t6, Z, F, none⟩, ⟨some q, .move (.tmp u), t7, p3, G, none⟩] false)))))) Q E W := by
  refine dN (fA (fun m E W => ∃ i, i ≤ N ∧ m = N - i ∧ I i E W) N ⟨0, Nat.zero_le _, by omega, J⟩ ?_)
  rintro m E W ⟨i, hi, rfl, d⟩
  obtain ⟨w, x⟩ := O i E W d
  refine aW (aU (Cm (.inl rfl) rfl T (cF w x rfl) (bK ?_)))
  refine aR (aW ?_)
  have t : gB E p (.bool (decide ((i : Int) < (N : Int)))) p = .bool (decide ((i : Int) < (N : Int))) := by simp [gB]
  by_cases r : i < N
  · have y : decide ((i : Int) < (N : Int)) = true := by simp; omega
    rw [y] at t ⊢
    refine qi t (cZ (aR (aW ?_)))
    refine BU (round i E W r d) (fun e E' W' h => ?_)
    cases e with
    | normal =>
      obtain ⟨L, M⟩ := h
      refine aR ?_
      have hw : IntKind.i64.wrap ((i : Int) + 1) = ((i + 1 : Nat) : Int) := GW r R
      refine aU (Cm (v := .int .i64 ((i + 1 : Nat) : Int)) (.inl rfl) rfl U (cF (k := .i64) (a := (i : Int)) (b := 1) L rfl (by simp only [DH, hw])) ?_)
      refine Cm (v := .int .i64 ((i + 1 : Nat) : Int)) (.inl rfl) rfl z (aQ (by simp [aS, gB])) (bK ?_)
      exact aR ⟨N - (i + 1), by omega, i + 1, by omega, rfl, M⟩
    | exit j => exact h
    | goto l => exact h
    | ret => exact h
    | panic c => exact h
    | outgrown => exact h
  · have y : decide ((i : Int) < (N : Int)) = false := by simp; omega
    rw [y] at t ⊢
    obtain rfl : i = N := by omega
    refine lF t (fH (fB (fB (ke ?_))))
    exact done E W d
theorem Hs {P : Program} {n : Nat} {x : Code} {Q : kj} {K : (Nat → Value) → World → Prop} {E : Nat → Value} {W : World} (J : (Nat → Value) → World → Prop) (h : CW P n x (jZ J Q) E W) (k : ∀ E W, J E W → K E W) : CW P n x (jZ K Q) E W :=
  BU h (fun e E W h => by cases e <;> first | exact k E W h | exact h)
theorem KR {α : Type} {c : Bool} {x y r : α} (a : c = true) (h : (if c = true then x else y) = r) : x = r := by rw [if_pos a] at h; exact h
theorem LB {α : Type} {c : Bool} {x y r : α} (a : c = false) (h : (if c = true then x else y) = r) : y = r := by rw [if_neg (by rw [a]; decide)] at h; exact h
theorem bind_some {α β : Type} {o : Option α} {f : α → Option β} {r : β} (h : o.bind f = some r) : ∃ y, o = some y ∧ f y = some r := by
  cases o with
  | none => cases h
  | some y => exact ⟨y, rfl, h⟩
theorem Gh (b : Bool) : b = true ∨ b = false := by cases b <;> simp
theorem cA {α : Type} {l : List α} {i : Nat} (h : i < l.length) : ∃ x xs, l.drop i = x :: xs ∧ l[i]? = some x ∧ l.drop (i + 1) = xs := by
  cases b : l.drop i with
  | nil => have := congrArg List.length b; simp at this; omega
  | cons x xs => exact ⟨x, xs, rfl, by rw [← List.head?a, b]; rfl, by rw [← List.drop_drop, b]; rfl⟩
theorem yu {P : Program} {W : World} (d : Nat) (xs ys : Array Value) : (Op.eqFields d xs ys []).run P W = .ok true W := by simp [Op.eqFields]
theorem kI {P : Program} {W : World} {d : Nat} {xs ys : Array Value} {f : Field} {fs : List Field} {a b : Value} {r s : Bool} (i : f.name ≠ "_") (ha : (part f.type xs f.offset).run P W = .ok a W) (g : (part f.type ys f.offset).run P W = .ok b W) (he : (Op.equalIn d f.type a b).run P W = .ok r W) (h : (Op.eqFields d xs ys fs).run P W = .ok s W) : (Op.eqFields d xs ys (f :: fs)).run P W = .ok (r && s) W := by
  simp only [Op.eqFields, ne_eq, i, not_false_eq_true, if_true, Sem.run_bind, ha, g, he, Result.andThen_ok]
  cases r <;> simp [h]
theorem sM {P : Program} {W : World} {t : TypeId} {k : Nat} {cs : Array Value} {off : Nat} {v : Array Value} (a : ∀ w, (isAgg t).run P w = .ok true w) (b : ∀ w, (sizeOf t).run P w = .ok k w) (d : cs.extract off (off + k) = v) : (part t cs off).run P W = .ok (.agg v) W := by
  simp [part, a W, b W, d]
theorem mr {P : Program} {W : World} {t : TypeId} {cs : Array Value} {off : Nat} {v : Value} (a : ∀ w, (isAgg t).run P w = .ok false w) (b : cs[off]? = some v) : (part t cs off).run P W = .ok v W := by
  simp [part, a W, b]
def dA (a b : ByteArray) : Bool := a.toList == b.toList
theorem Je {P : Program} {t : TypeId} (g : P.underlying t = some .string) (d : Nat) (a b : ByteArray) (W : World) : (Op.equalIn (d + 1) t (.string a) (.string b)).run P W = .ok (dA a b) W := run_equalIn_string W d t a b g
theorem Nf {P : Program} {t : TypeId} {k : IntKind} (g : P.underlying t = some (.int k)) (d : Nat) (a b : Int) (W : World) : (Op.equalIn (d + 1) t (.int k a) (.int k b)).run P W = .ok (a == b) W := run_equalIn_int W d t k k a b g
theorem fR {P : Program} {op : BinOp} {t : TypeId} {x y : Operand} {a b : Array Value} (d : P.eqGuardType P.depth t = false) (W : World) : (eqGuard op t x y (.agg a) (.agg b)).run P W = .ok () W := by
  cases op <;> simp [eqGuard] <;> (intro h; rw [d] at h; cases h)
theorem kC {P : Program} {t : TypeId} {a b : Array Value} {r : Bool} (h : ∀ W, (Op.equalIn Op.maxDepth t (.agg a) (.agg b)).run P W = .ok r W) (W : World) : (binOp .eql t (.agg a) (.agg b)).run P W = .ok (.bool r) W := by
  simp [binOp, Op.equal, h W]
theorem wH {P : Program} {t : TypeId} {a b : Array Value} {r : Bool} (h : ∀ W, (Op.equalIn Op.maxDepth t (.agg a) (.agg b)).run P W = .ok r W) (W : World) : (binOp .neq t (.agg a) (.agg b)).run P W = .ok (.bool !r) W := by
  simp [binOp, Op.equal, h W]
end Go.Proofs.YtmlncblocfcmiaaGreat
namespace Go.Proofs.YtmlncblocfcmiaaGreat
open Go.RowKit
variable {dd : Bool}
def dM (k : IntKind) (x : Int) : List Value := [.int k x]
def KW (x : Bool) : List Value := [.bool x]
def mG (x : ByteArray) : List Value := [.string x]
theorem AI (k : IntKind) (x : Int) : ∀ u ∈ dM k x, u.oneCell' = true := by intro u hu; simp [dM] at hu; subst hu; rfl
theorem MZ (x : Bool) : ∀ u ∈ KW x, u.oneCell' = true := by intro u hu; simp [KW] at hu; subst hu; rfl
theorem Gz (x : ByteArray) : ∀ u ∈ mG x, u.oneCell' = true := by intro u hu; simp [mG] at hu; subst hu; rfl
def zS : ByteArray := ⟨#[]⟩
def jz (a b : ByteArray) : Bool := Op.bytesLess a.toList b.toList
@[irreducible] def bL : Nat := 18446744073709551616
theorem qe : bL = 18446744073709551616 := by unfold bL; rfl
def dU {α : Type} (l : List α) (i : Int) : Option α := if 0 ≤ i then l[i.toNat]? else none
theorem bV {α : Type} {l : List α} {i : Int} {x : α} (h : dU l i = some x) : 0 ≤ i := by
  unfold dU at h; split at h
  · assumption
  · cases h
theorem bQ {α : Type} {l : List α} {i : Int} {x : α} (h : dU l i = some x) : l[i.toNat]? = some x := by
  unfold dU at h; split at h
  · exact h
  · cases h
theorem zh {α : Type} (l : List α) (i : Nat) : dU l (i : Int) = l[i]? := by simp [dU]
def ue (s : ByteArray) (i : Int) : Option UInt8 := if 0 ≤ i then s[i.toNat]? else none
theorem tm {s : ByteArray} {i : Int} {x : UInt8} (h : ue s i = some x) : 0 ≤ i := by
  unfold ue at h; split at h
  · assumption
  · cases h
theorem xA {s : ByteArray} {i : Int} {x : UInt8} (h : ue s i = some x) : s[i.toNat]? = some x := by
  unfold ue at h; split at h
  · exact h
  · cases h
section
variable {F : Nat → Prop} {w W : World} {μ : bW} {L L' : List (Nat × Obj)} {α : Type} {e : TypeId} {enc : α → List Value} {k : Nat} {v : Value} {l : List α} {R : List (Nat × Obj)}
theorem ST.at_ (h : ST dd F w W μ L) {b : Nat} {o : Obj} (a : (b, o) ∈ L) : hp W b = some o := (h.box b o a).1
theorem bG.Ms (h : bG e enc k v l R) (g : ∀ x, (enc x).length = k) (a : ST dd F w W μ L) (b : ∀ p, p ∈ R → p ∈ L) : Sl (Pl enc) k (hp W) v l :=
  h.sl g (fun _ _ d => a.at_ (b _ d))
theorem bG.form (h : bG e enc k v l R) : ∃ A c, v = .slice A l.length c := by
  rcases h with ⟨rfl, rfl, rfl⟩ | ⟨g, cap, cur, rfl, rfl, a, b, d, i⟩
  · exact ⟨_, _, rfl⟩
  · exact ⟨_, _, rfl⟩
theorem Sl.form {R : jq α} (h : Sl R k μ v l) : ∃ A c, v = .slice A l.length c := let ⟨A, c, h, _⟩ := h; ⟨A, c, h⟩
theorem Sl.lit {b m : Nat} {cs : Array Value} (d : ∀ x, (enc x).length = k) (hm : l.length = m) (g : m ≤ maxLen) (a : cs.toList = (l.map enc).flatten) (i : μ b = some (.cells cs e (0, 0))) : Sl (Pl enc) k μ (.slice (some ⟨b, 0, none⟩) m m) l :=
  (bG.lit (e := e) (b := b) hm g a (by have := congrArg List.length a; rw [jo d, Array.length_toList, hm] at this; exact this)).sl d (fun j o h => by simp at h; obtain ⟨rfl, rfl⟩ := h; exact i)
theorem Fr.box (h : ST dd cC w W μ L) {b m c : Nat} {o : Obj} (d : (b, o) ∈ L) : Fr w.heap.size (.slice (some ⟨b, 0, none⟩) m c) := by
  intro g a
  simp [Value.ownBlock] at a
  subst a
  rcases (h.box b o d).2.2 with h | h
  · exact h
  · exact h.elim
theorem ST.perm (h : ST dd F w W μ L) (hp : L.Perm L') : ST dd F w W μ L' :=
  ⟨h.os, h.tape, h.output, h.drawn, h.size, h.eO, h.mem, fun b o a => h.box b o (hp.mem_iff.2 a), (hp.map _).nodup_iff.1 h.nd⟩
theorem ST.sublist (h : ST dd F w W μ L) (a : L'.Sublist L) : ST dd F w W μ L' :=
  ⟨h.os, h.tape, h.output, h.drawn, h.size, h.eO, h.mem, fun b o d => h.box b o (a.subset d), h.nd.sublist (a.map _)⟩
end
section
variable {E : Nat → Value} {x1 x2 x3 x4 x5 x6 : Operand} {v1 v2 v3 v4 v5 v6 : Value}
theorem nE (a : aS E x1 = v1) : #[x1].map (aS E) ++ (#[] : Array Value) = [v1].toArray := by simp [a]
theorem pC (a : aS E x1 = v1) (b : aS E x2 = v2) : #[x1, x2].map (aS E) ++ (#[] : Array Value) = [v1, v2].toArray := by simp [a, b]
end
theorem CK : ∀ (v : List Value) (i off : Nat) (cells : Array Value), off + i + v.length ≤ cells.size →
    (v.zipIdx i).foldl (fun cs (c, j) => cs.setIfInBounds (off + j) c) cells = (cells.toList.take (off + i) ++ v ++ cells.toList.drop (off + i + v.length)).toArray
  | [], i, off, cells, h => by simp
  | c :: v, i, off, cells, h => by
    simp only [List.zipIdx_cons, List.foldl_cons]
    simp only [List.length_cons] at h
    rw [CK v (i + 1) off _ (by simp; omega)]
    have m : off + i < cells.toList.length := by simp; omega
    congr 1
    rw [Array.toList_setIfInBounds]
    apply List.ext_getElem?
    intro j
    have p : (cells.toList.take (off + i)).length = off + i := by simp; omega
    by_cases n : j < off + i
    · simp only [List.getElem?a, List.length_append, List.length_take, List.length_set, Array.length_toList, List.length_cons, List.getElem?b, List.getElem?d, List.getElem?g]
      rw [show min (off + (i + 1)) cells.size = off + (i + 1) by omega, show min (off + i) cells.size = off + i by omega]
      rw [if_pos (by omega), if_pos (by omega), if_pos (by omega), if_neg (by omega), if_pos (by omega), if_pos (by omega), if_pos (by omega)]
    · by_cases l : j = off + i
      · subst l
        simp [List.getElem?a, List.getElem?b, List.getElem?d, show off + i < off + (i + 1) by omega]
        rw [if_pos (by omega), if_pos (by omega), if_neg (by omega), show off + i - min (off + i) cells.size = 0 by omega]
        rfl
      · simp only [List.getElem?a, List.length_append, List.length_take, List.length_set, Array.length_toList, List.length_cons, List.getElem?b, List.getElem?d, List.getElem?g]
        rw [show min (off + (i + 1)) cells.size = off + (i + 1) by omega, show min (off + i) cells.size = off + i by omega]
        by_cases k : j < off + (i + 1) + v.length
        · rw [if_pos k, if_neg (by omega), if_pos (by omega), if_neg (by omega)]
          rw [show j - (off + i) = (j - (off + (i + 1))) + 1 by omega]
          simp
        · rw [if_neg k, if_neg (by omega), if_neg (by omega)]
          congr 1
          omega
theorem Ep {k : Nat} : ∀ (vs : List Value) (i : Nat) (pre rest : List Value), (∀ v ∈ vs, v.cells.size = k) → pre.length = i * k → rest.length = vs.length * k →
    Instr.fill (fun i => some (i * k, k)) (pre ++ rest).toArray ((vs.zipIdx i).map (fun p => (p.2, p.1))) = some (pre ++ vs.flatMap (fun v => v.cells.toList)).toArray
  | [], i, pre, rest, d, hp, b => by
    have : rest = [] := by cases rest <;> simp at b ⊢
    simp [Instr.fill, this]
  | v :: vs, i, pre, rest, d, hp, b => by
    have a := d v (by simp)
    have g : v.cells.zipIdx.foldl (fun cs (c, j) => cs.setIfInBounds (i * k + j) c) (pre ++ rest).toArray = (pre ++ v.cells.toList ++ rest.drop k).toArray := by
      have := CK v.cells.toList 0 (i * k) (pre ++ rest).toArray (by simp [hp, b, a, Nat.add_mul])
      rw [← Array.toList_zipIdx, Array.foldl_toList] at this
      rw [this]
      congr 1
      simp [← hp, a]
    simp only [List.zipIdx_cons, List.map_cons, Instr.fill]
    rw [if_neg (by simp [a, hp, b, Nat.add_mul]), g]
    have := Ep vs (i + 1) (pre ++ v.cells.toList) (rest.drop k) (fun u hu => d u (by simp [hu])) (by simp [hp, a, Nat.add_mul]) (by simp [b, Nat.add_mul])
    rw [this]
    simp
theorem IF {k m : Nat} {a cs : Array Value} {b : Array (Nat × Value)} (vs : List Value) (g : b.toList = vs.zipIdx.map (fun p => (p.2, p.1))) (j : ∀ v ∈ vs, v.cells.size = k) (hm : vs.length = m) (h : a.size = m * k) (d : (vs.flatMap (fun v => v.cells.toList)).toArray = cs) : Instr.fill (fun i => some (i * k, k)) a b.toList = some cs := by
  subst hm d
  rw [g]
  have := Ep vs 0 [] a.toList j (by simp) (by simpa using h)
  simpa using this
theorem sV {P : Program} {t e : TypeId} {m k : Nat} {z : Value} {a : Array (Nat × Value)} {cs : Array Value} (vs : List Value) (i : P.underlying t = some (.slice e)) (h : ∀ w, (sizeOf e).run P w = .ok k w) (l : ∀ w, (zeroValue e).run P w = .ok z w) (hm : m * k ≤ 16777216) (g : a.toList = vs.zipIdx.map (fun p => (p.2, p.1))) (j : ∀ v ∈ vs, v.cells.size = k) (d : vs.length = m) (b : (vs.flatMap (fun v => v.cells.toList)).toArray = cs) (W : World) :
    (Instr.buildSlice t m a).run P W = .ok (.slice (some ⟨W.heap.size, 0, none⟩) m m) (W.alloc (.cells cs e (0, 0))) :=
  BV i h l hm (IF vs g j d (by simp) b) W
theorem jB {E : Nat → Value}  : (#[] : Array (Nat × Operand)).map (fun (i, x) => (i, aS E x)) = #[] := by simp
theorem ei {E : Nat → Value} {x0 : Operand} {v0 : Value} {a : Nat} (b : aS E x0 = v0) : (#[(a, x0)] : Array (Nat × Operand)).map (fun (i, x) => (i, aS E x)) = #[(a, v0)] := by simp [b]
theorem gJ {E : Nat → Value} {x0 x1 : Operand} {v0 v1 : Value} {a b : Nat} (d : aS E x0 = v0) (g : aS E x1 = v1) : (#[(a, x0), (b, x1)] : Array (Nat × Operand)).map (fun (i, x) => (i, aS E x)) = #[(a, v0), (b, v1)] := by simp [d, g]
theorem yK {E : Nat → Value} {x0 x1 x2 : Operand} {v0 v1 v2 : Value} {a b d : Nat} (g : aS E x0 = v0) (h : aS E x1 = v1) (j : aS E x2 = v2) : (#[(a, x0), (b, x1), (d, x2)] : Array (Nat × Operand)).map (fun (i, x) => (i, aS E x)) = #[(a, v0), (b, v1), (d, v2)] := by simp [g, h, j]
theorem Ll {E : Nat → Value} {x0 x1 x2 x3 : Operand} {v0 v1 v2 v3 : Value} {a b d g : Nat} (h : aS E x0 = v0) (j : aS E x1 = v1) (k : aS E x2 = v2) (l : aS E x3 = v3) : (#[(a, x0), (b, x1), (d, x2), (g, x3)] : Array (Nat × Operand)).map (fun (i, x) => (i, aS E x)) = #[(a, v0), (b, v1), (d, v2), (g, v3)] := by simp [h, j, k, l]
theorem cV {P : Program} {t : TypeId} {f off : Nat} {fs : Array Field} {fd : Field} (i : P.underlying t = some (.struct fs)) (a : fs[f]? = some fd) {k : Nat} (h : ∀ w, (sizeOf fd.type).run P w = .ok k w) (d : k ≠ 0) (g : fd.offset = off) : dY P t f off := by
  intro b o w
  subst g
  simp [Instr.fieldAt, run_underlying i, a, Instr.sureAddr, fieldPlace, Addr.add_lit, h w, d]
theorem Ag.Bq {n : Nat} {a : Act} {E : Nat → Value} (h : Ag n a E) {ops : Array Oper} {j t : Nat} (d : (ops[j]?).bind (·.dst) = some t) (i : t < n) (k : E t = undef) : yielded ops a.tmps j = none := by
  have b := h.2.2 t
  have g : a.tmps[t]? = some (E t) := by
    rw [← b]
    simp [Array.getD_eq_getD_getElem?, h.1, i]
  simp [yielded, d, g, k, undef]
theorem Ln {P : Program} {n : Nat} {Q : kj} {E : Nat → Value} {W : World} {ops : Array Oper} {rest : List Oper} {o : Oper} {d j t : Nat} {want : Bool} (g : o.dst = some d) (l : d < n) (i : o.guard = some (j, want)) (k : (ops[j]?).bind (·.dst) = some t) (m : t < n) (b : E t = undef) (h : LW P n ops Q rest (gB E d undef) W) : LW P n ops Q (o :: rest) E W := fun a ha => by
  unfold wpList
  have p := ha.Bq k m b
  rw [if_neg (by simp [Region.wanted, i, p])]
  rw [g]
  exact h _ (ha.put l _)
theorem KM {P : Program} {n : Nat} {Q : kj} {E : Nat → Value} {W : World} {ops : Array Oper} {rest : List Oper} {A : Value → Prop} {o : Oper} {dd : Nat} (hw : mC n ops E o) (d : o.dst = some dd) (g : dd < n) (i : ∃ p, A p ∧ ∀ W, er P E o W p W) (h : ∀ p, A p → LW P n ops Q rest (gB E dd p) W) : LW P n ops Q (o :: rest) E W := by
  obtain ⟨p, a, b⟩ := i
  exact Cm hw d g (b W) (h p a)
end Go.Proofs.YtmlncblocfcmiaaGreat
namespace Go.Proofs.YtmlncblocfcmiaaGreat
open Go.RowKit
variable {dd : Bool}
theorem jO {P : Program} {n : Nat} {x : Code} {Q : kj} {E : Nat → Value} {W : World} (h : CW P n x (jZ (fun E W => Q .normal E W) Q) E W) : CW P n x Q E W :=
  BU h (fun e E W h => by cases e <;> exact h)
section
variable {P : Program} {n : Nat} {Q : kj} {E : Nat → Value} {W : World} {d : Option Nat} {ty : TypeId} {pos : String} {af : Array Edge} {g : Option (Nat × Bool)}
  {F : Nat → Prop} {w : World} {μ : bW} {L : List (Nat × Obj)}
def Jg (k : IntKind) (op : BinOp) (a b : Int) : Option Value :=
  match op with
  | .quo => some (.int k (k.wrap (a.tdiv b)))
  | .rem => some (.int k (a.tmod b))
  | .and => some (.int k (k.wrap (BitVec.ofInt k.bits a &&& BitVec.ofInt k.bits b).toNat))
  | .or => some (.int k (k.wrap (BitVec.ofInt k.bits a ||| BitVec.ofInt k.bits b).toNat))
  | _ => none
theorem DG {op : BinOp} {h n : TypeId} {x y : Operand} {k : IntKind} {a b : Int} {v : Value} (l : aS E x = .int k a) (m : aS E y = .int k b) (j : b ≠ 0) (i : Jg k op a b = some v) :
    er P E ⟨d, .binOp op h x y n, ty, pos, af, g⟩ W v W := by
  show (do let r ← (do eqGuard op h x y (aS E x) (aS E y); binOp op h (aS E x) (aS E y)); pure (.value r) : Sem Next).run P W = _
  rw [l, m]
  cases op <;> simp [Jg] at i <;> subst i <;> simp [eqGuard, binOp, Op.intDiv, Op.intBits, j]
theorem AQ {h l : TypeId} {x y : Operand} {k k' : IntKind} {a b : Int} (i : aS E x = .int k a) (j : aS E y = .int k' b) (m : 0 ≤ b) :
    er P E ⟨d, .binOp .shr h x y l, ty, pos, af, g⟩ W (.int k (a.fdiv (2 ^ min b.toNat k.bits))) W := by
  show (do let r ← (do eqGuard .shr h x y (aS E x) (aS E y); binOp .shr h (aS E x) (aS E y)); pure (.value r) : Sem Next).run P W = _
  rw [i, j]
  simp [eqGuard, binOp, Op.shift, show ¬ b < 0 by omega]
theorem kJ {s t : TypeId} {x : Operand} {k k' : IntKind} {a : Int} {u : TypeDesc} (b : P.underlying s = some u) (h : P.underlying t = some (.int k)) (i : aS E x = .int k' a) :
    er P E ⟨d, .convert s t x, ty, pos, af, g⟩ W (.int k (k.wrap a)) W := by
  show (do pure (.value (← convert s t (aS E x))) : Sem Next).run P W = _
  rw [i]
  simp [convert, run_underlying b, run_underlying h, Conv.intToInt]
theorem BZ {t e : TypeId} (dd : Nat) (a : P.underlying t = some (.slice e)) (A : Option Addr) (l c : Nat) (W : World) : (Op.equalIn (dd + 1) t (.slice A l c) (.slice none 0 0)).run P W = .ok A.isNone W := by
  cases A <;> simp [Op.equalIn, run_underlying a]
theorem tP {a k e : TypeId} {x y : Operand} {A : Option Addr} {l c : Nat} (h : P.underlying a = some (.slice e)) (i : aS E x = .slice A l c) (j : aS E y = .slice none 0 0) :
    er P E ⟨d, .binOp .eql a x y k, ty, pos, af, g⟩ W (.bool A.isNone) W := by
  show (do let r ← (do eqGuard .eql a x y (aS E x) (aS E y); binOp .eql a (aS E x) (aS E y)); pure (.value r) : Sem Next).run P W = _
  rw [i, j]
  have b := BZ 9999 h A l c W
  simp [eqGuard, binOp, Op.equal, show Op.maxDepth = 9999 + 1 from rfl, b]
def mB (s : ByteArray) : List Int := s.data.toList.map (fun b => (b.toNat : Int))
def wG (s : ByteArray) : Option (List Int) := if s.size ≤ maxLen then some (mB s) else none
theorem iR (s : ByteArray) : (mB s).length = s.size := by simp only [mB, List.length_map, Array.length_toList]; rfl
theorem GI {s : ByteArray} {cap i : Nat} {x : Int} (h : (mB s)[i]? = some x) : (bytesRow s cap)[i]? = some (.int .u8 x) := by
  have k : i < s.size := by have := (List.getElem?d.1 h).1; l [iR] at this
  have g : i < s.data.size := k
  simp [mB] at h
  obtain ⟨b, j, rfl⟩ := h
  rw [bytesRow, Array.getElem?a (by simpa using g)]
  simp [j]
theorem CV {K : Value → World → Prop} {s t e : TypeId} {x : Operand} {str : ByteArray} {l : List Int} (m : ST dd F w W μ L) (z : P.underlying s = some .string) (u : P.underlying t = some (.slice e)) (he : P.underlying e = some (.int .u8)) (q : aS E x = .string str) (a : wG str = some l) (h : ∀ W' v μ', ST dd F w W' μ' L → bO μ μ' → Lo F w μ μ' → Sl (Pl (dM .u8)) 1 μ' v l → Fr w.heap.size v → K v W') : fQ P E ⟨d, .convert s t x, ty, pos, af, g⟩ W K := by
  unfold wG at a
  split at a
  case isFalse => cases a
  k hm
  cases a
  have n := run_bytes_of_string (P := P) W s t e str z u he
  have p := m.drew.alloc (.cells (bytesRow str (grownCap W str.size 0 e)) e ((bytesRow str (grownCap W str.size 0 e)).size, (bytesRow str (grownCap W str.size 0 e)).size + 1))
  refine .inl ⟨.slice (some ⟨W.heap.size, 0, none⟩) str.size (grownCap W str.size 0 e), _, ?_, h _ _ _ (ST.CA (A := []) p) (ST.BY (A := []) p) (ST.Hh (A := []) p) ?_ ?_⟩
  · show (do pure (.value (← convert s t (aS E x))) : Sem Next).run P W = _
    rw [q]
    simp only [Sem.run_bind, n, Result.andThen_ok, Sem.run_pure]
  · refine ⟨_, grownCap W str.size 0 e, by rw [iR], by rw [iR]; exact grownCap_ge W str.size 0 e, grownCap_le_maxLen W str.size 0 e hm, fun _ => ⟨W.heap.size, 0, bytesRow str (grownCap W str.size 0 e), e, _, rfl, if_pos rfl, fun i x q => ⟨_, rfl, rfl, fun j y r => ?_⟩⟩⟩
    cases j with
    | zero => simp [dM] at r; subst r; simpa using GI q
    | succ j => simp [dM] at r
  · intro b a
    simp [Value.ownBlock] at a
    subst a
    exact m.size
def yb (l : List Int) : ByteArray := l.foldl (fun r n => r.push (UInt8.ofNat n.toNat)) ByteArray.empty
theorem Fz {s t e : TypeId} {x : Operand} {v : Value} {l : List Int} (z : P.underlying s = some (.slice e)) (he : P.underlying e = some (.int .u8)) (y : P.underlying t = some .string) (F : aS E x = v) (D : Sl (Pl (dM .u8)) 1 (hp W) v l) :
    er P E ⟨d, .convert s t x, ty, pos, af, g⟩ W (.string (yb l)) W := by
  show (do pure (.value (← convert s t (aS E x))) : Sem Next).run P W = _
  obtain ⟨A, c, rfl, G, I, q⟩ := D
  rw [F]
  simp only [Sem.run_bind, run_convert_bytes_string W s t e A l.length c z he y]
  rcases Nat.eq_zero_or_pos l.length with h | h
  · have : l = [] := List.length_eq_zero_iff.1 h
    subst this
    cases A with
    | none => simp [Conv.bytesToString, yb]
    | some a =>
      have r := run_bytesToString (P := P) W a 0 c [] (by simpa using run_loadCells_list (P := P) W a [] (by simp))
      simp only [List.length_nil]
      rw [r]
      simp [yb]
  · obtain ⟨b, off, cs, T, fr, rfl, u, w⟩ := q h
    have p := run_loadCells_list (P := P) W ⟨b, off, none⟩ (l.map (Value.int .u8)) (fun j v n => by
      simp at n
      obtain ⟨x, k, rfl⟩ := n
      obtain ⟨ys, _, m, i⟩ := w j x k
      cases m
      rw [Addr.add_lit, cell_of_row W b (off + j) cs T fr u]
      have := i 0 (.int .u8 x) rfl
      simpa using this)
    simp only [List.length_map] at p
    rw [run_bytesToString W _ l.length c l p]
    simp [yb]
end
end Go.Proofs.YtmlncblocfcmiaaGreat
namespace Go.Proofs.YtmlncblocfcmiaaGreat
open Go.RowKit
variable {dd : Bool}
def keys (L : List (Nat × Obj)) : Nat → Prop := fun b => ∃ o, (b, o) ∈ L
structure Nk (dd : Bool) (F : Nat → Prop) (w W : World) : Prop where
  os : W.os = w.os
  tape : W.tape = w.tape
  output : W.output = w.output
  drawn : nu dd w.drawn W.drawn
  size : w.heap.size ≤ W.heap.size
  eO : ∀ b, b < w.heap.size → ¬ F b → W.heap[b]? = w.heap[b]?
def yr (L : List (Nat × Obj)) (W : World) : Prop := ∀ b o, (b, o) ∈ L → W.heap[b]? = some o
structure nw (dd : Bool) (L0 L1 : List (Nat × Obj)) (w w' : World) : Prop where
  ex : Nk dd (keys L0) w w'
  held : ∀ b o, (b, o) ∈ L1 → w'.heap[b]? = some o ∧ (w.heap.size ≤ b ∨ keys L0 b)
  nd : (L1.map (·.1)).Nodup
open Classical in
noncomputable def nK (w : World) (L : List (Nat × Obj)) : bW := fun b => if keys L b then none else w.heap[b]?
open Classical in
noncomputable def vH (μ : bW) (W W' : World) (L1 : List (Nat × Obj)) : bW := fun b => if b < W.heap.size then μ b else if keys L1 b then none else W'.heap[b]?
section
variable {F : Nat → Prop} {w W W' : World} {μ μ' : bW} {L L0 L1 : List (Nat × Obj)}
theorem ST.KA (a : yr L0 w) (d : (L0.map (·.1)).Nodup) : ST dd (keys L0) w w (nK w L0) L0 :=
  ⟨rfl, rfl, rfl, nu.of (Nat.le_refl _), Nat.le_refl _, fun _ _ _ => rfl, fun b o h => by
    unfold nK at h; split at h
    · cases h
    · exact h, fun b o h => ⟨a b o h, by unfold nK; rw [if_pos ⟨o, h⟩], .inr ⟨o, h⟩⟩, d⟩
theorem zn {A B : List (Nat × Obj)} (h : ((A ++ B).map (·.1)).Nodup) {b : Nat} {o : Obj} (a : (b, o) ∈ B) : ¬ keys A b := by
  rintro ⟨g, d⟩
  rw [List.map_append] at h
  exact (List.nodup_append.1 h).2.2 b (List.mem_map.2 ⟨_, d, rfl⟩) b (List.mem_map.2 ⟨_, a, rfl⟩) rfl
theorem ST.back (h : ST dd F w W μ (L0 ++ L)) (k : nw dd L0 L1 W W') : ST dd F w W' (vH μ W W' L1) (L1 ++ L) := by
  have p : ∀ b, keys L0 b → b < W.heap.size ∧ μ b = none ∧ (w.heap.size ≤ b ∨ F b) := fun b ⟨o, d⟩ => by
    obtain ⟨l, g, q⟩ := h.box b o (List.mem_append_left _ d)
    exact ⟨gC l, g, q⟩
  refine ⟨k.ex.os.trans h.os, k.ex.tape.trans h.tape, k.ex.output.trans h.output, nu.trans h.drawn k.ex.drawn, Nat.le_trans h.size k.ex.size, fun b i r => ?_, fun b o d => ?_, fun b o d => ?_, ?_⟩
  · rw [k.ex.eO b (Nat.lt_of_lt_of_le i h.size) (fun m => by
      rcases (p b m).2.2 with h | h
      · omega
      · exact r h)]
    exact h.eO b i r
  · unfold vH at d
    split at d
    · j i
      rw [k.ex.eO b i (fun m => by rw [(p b m).2.1] at d; cases d)]
      exact h.mem b o d
    · split at d
      · cases d
      · exact d
  · rcases List.mem_append.1 d with d | d
    · obtain ⟨l, g⟩ := k.held b o d
      refine ⟨l, ?_, ?_⟩
      · unfold vH
        split
        · j i
          rcases g with g | g
          · omega
          · exact (p b g).2.1
        · rw [if_pos ⟨o, d⟩]
      · rcases g with g | g
        · exact .inl (Nat.le_trans h.size g)
        · exact (p b g).2.2
    · obtain ⟨l, g, q⟩ := h.box b o (List.mem_append_right _ d)
      refine ⟨?_, ?_, q⟩
      · rw [k.ex.eO b (gC l) (zn h.nd d)]; exact l
      · unfold vH; rw [if_pos (gC l)]; exact g
  · rw [List.map_append]
    have t : (L.map (·.1)).Nodup := by have := h.nd; rw [List.map_append] at this; exact (List.nodup_append.1 this).2.1
    refine List.nodup_append.2 ⟨k.nd, t, fun a ha c u e => ?_⟩
    subst e
    obtain ⟨⟨b, o⟩, d, rfl⟩ := List.mem_map.1 ha
    obtain ⟨⟨s, v⟩, n, e⟩ := List.mem_map.1 u
    simp at e; subst e
    have i := h.Bc (List.mem_append_right _ n)
    rcases (k.held s o d).2 with g | g
    · omega
    · exact zn h.nd n g
theorem ST.Ea (h : ST dd F w W μ L) (W' : World) (L1 : List (Nat × Obj)) : Lo F w μ (vH μ W W' L1) := fun b a _ => if_pos (Nat.lt_of_lt_of_le a h.size)
theorem ST.CQ (h : ST dd F w W μ L) (W' : World) (L1 : List (Nat × Obj)) : bO μ (vH μ W W' L1) := fun b o a => by
  unfold vH; rw [if_pos (h.zi a)]; exact a
theorem ST.cJ (h : ST dd F w W μ L) (d : ∀ p, p ∈ L0 → p ∈ L) : bO μ (nK W L0) := fun b o a => by
  unfold nK
  rw [if_neg]
  · exact h.mem b o a
  · rintro ⟨i, g⟩
    rw [(h.box b i (d _ g)).2.1] at a
    cases a
theorem nw.DF (h : Ex dd w W) (d : ∀ b o, (b, o) ∈ L1 → W.heap[b]? = some o ∧ w.heap.size ≤ b) (g : (L1.map (·.1)).Nodup) : nw dd [] L1 w W :=
  ⟨⟨h.os, h.tape, h.output, h.drawn, h.size, fun b a _ => h.eO b a⟩, fun b o a => ⟨(d b o a).1, .inl (d b o a).2⟩, g⟩
end
def dV (dd : Bool) (P : Program) (f : FuncId) (args : List Value) (w : World) (L0 : List (Nat × Obj)) (K : Value → List (Nat × Obj) → World → Prop) : Prop :=
  Calls P f args.toArray w fun e a => ∃ v L1, e = .returned v ∧ nw dd L0 L1 w a ∧ K v L1 a
def dP (dd : Bool) {α : Type} (P : Program) (f : FuncId) (args : List Value) (w : World) (e : TypeId) (enc : α → List Value) (k : Nat) (l : List α) : Prop :=
  dV dd P f args w [] fun v R _ => bG e enc k v l R
theorem nw.dK {L0 L1 : List (Nat × Obj)} {w a : World} (h : nw true L0 L1 w a) : nw dd L0 L1 w a := ⟨⟨h.ex.os, h.ex.tape, h.ex.output, nu.of (h.ex.drawn rfl), h.ex.size, h.ex.eO⟩, h.held, h.nd⟩
theorem bF.dK {P : Program} {f : FuncId} {args : List Value} {w : World} {v : Value} (h : bF true P f args w v) : bF dd P f args w v := Calls.mono h fun _ _ h => ⟨h.1, h.2.dK⟩
theorem dV.dK {P : Program} {f : FuncId} {args : List Value} {w : World} {L0 : List (Nat × Obj)} {K : Value → List (Nat × Obj) → World → Prop} (h : dV true P f args w L0 K) : dV dd P f args w L0 K := Calls.mono h fun _ _ ⟨v, L1, a, b, d⟩ => ⟨v, L1, a, b.dK, d⟩
theorem dP.dK {α : Type} {P : Program} {f : FuncId} {args : List Value} {w : World} {e : TypeId} {enc : α → List Value} {k : Nat} {l : List α} (h : dP true P f args w e enc k l) : dP dd P f args w e enc k l := dV.dK h
section
variable {P : Program} {E : Nat → Value} {W : World} {d : Option Nat} {ty : TypeId} {pos : String} {af : Array Edge} {g : Option (Nat × Bool)}
  {F : Nat → Prop} {w : World} {μ : bW} {L : List (Nat × Obj)}
theorem Iv {K : Value → World → Prop} {K' : Value → List (Nat × Obj) → World → Prop} {f : FuncId} {fv : Operand} {ax : Array Operand} {ats : Array TypeId} {caps : Array Value} {args : List Value} (L0 L2 : List (Nat × Obj)) (a : ST dd F w W μ L) (b : L.Perm (L0 ++ L2)) (m : aS E fv = .func (.func f) #[] caps) (he : ∀ args w, (callFunc f args).run P w = .ok (.enter f args) w) (ha : ax.map (aS E) ++ caps = args.toArray) (l : dV dd P f args W L0 K') (h : ∀ W' v μ' L1, ST dd F w W' μ' (L1 ++ L2) → bO μ μ' → Lo F w μ μ' → K' v L1 W' → K v W') : fQ P E ⟨d, .call ⟨.value fv, ax, ats⟩, ty, pos, af, g⟩ W K :=
  zu m he ha (Calls.mono l (fun _ W' ⟨v, L1, i, j, k⟩ => ⟨v, i, h W' v _ L1 ((a.perm b).back j) ((a.perm b).CQ W' L1) ((a.perm b).Ea W' L1) k⟩))
theorem Ge {K : Value → World → Prop} {α : Type} {e : TypeId} {enc : α → List Value} {k : Nat} {l : List α} {f : FuncId} {fv : Operand} {ax : Array Operand} {ats : Array TypeId} {caps : Array Value} {args : List Value} (X Y : List (Nat × Obj)) (a : ST dd F w W μ (X ++ Y)) (p : aS E fv = .func (.func f) #[] caps) (he : ∀ args w, (callFunc f args).run P w = .ok (.enter f args) w) (ha : ax.map (aS E) ++ caps = args.toArray) (n : dP dd P f args W e enc k l) (h : ∀ W' v μ' R, ST dd F w W' μ' (X ++ (R ++ Y)) → bO μ μ' → Lo F w μ μ' → bG e enc k v l R → K v W') : fQ P E ⟨d, .call ⟨.value fv, ax, ats⟩, ty, pos, af, g⟩ W K :=
  Iv [] (X ++ Y) a (.refl _) p he ha n (fun W' v μ' L1 b i m j => h W' v μ' L1 (b.perm (by rw [← List.append_assoc, ← List.append_assoc]; exact List.perm_append_comm.append_right Y)) i m j)
end
theorem ST.gb {w W : World} {μ : bW} {L R : List (Nat × Obj)} (h : ST dd cC w W μ L) (a : ∀ p, p ∈ R → p ∈ L) (g : (R.map (·.1)).Nodup) : nw dd [] R w W :=
  nw.DF h.ex (fun b o d => ⟨(h.box b o (a _ d)).1, by
    rcases (h.box b o (a _ d)).2.2 with h | h
    · exact h
    · exact h.elim⟩) g
theorem fi {P : Program} {E : Nat → Value} {W : World} {d : Option Nat} {ty : TypeId} {pos : String} {af : Array Edge} {g : Option (Nat × Bool)} {α : Type} {e' : TypeId} {enc : α → List Value} {k : Nat} {v : Value} {l : List α} {R : List (Nat × Obj)} {x : Operand} {t e : TypeId} (a : P.underlying t = some (.slice e)) (b : aS E x = v) (h : bG e' enc k v l R) : er P E ⟨d, .call ⟨.builtin .len, #[x], #[t]⟩, ty, pos, af, g⟩ W (.int .i64 l.length) W := by
  obtain ⟨A, c, rfl⟩ := h.form
  exact uD a b
section
variable {α : Type} {e : TypeId} {enc : α → List Value} {k : Nat} {v : Value} {l : List α} {R : List (Nat × Obj)}
theorem bG.nd (h : bG e enc k v l R) : (R.map (·.1)).Nodup := by
  rcases h with ⟨rfl, rfl, rfl⟩ | ⟨g, cap, cur, rfl, rfl, _⟩ <;> simp
end
end Go.Proofs.YtmlncblocfcmiaaGreat
namespace Go.Proofs.YtmlncblocfcmiaaGreat
open Go.RowKit
variable {dd : Bool}
def uk (R : List (Nat × Obj)) (k : Nat) (p : Value) (i : Nat) : Prop := ∃ g o, R = [(g, o)] ∧ p = .pointer (some ⟨g, i * k, none⟩)
section
variable {P : Program} {E : Nat → Value} {W : World} {d : Option Nat} {ty : TypeId} {pos : String} {af : Array Edge} {g : Option (Nat × Bool)}
  {F : Nat → Prop} {w : World} {μ : bW} {L : List (Nat × Obj)} {α : Type} {e' : TypeId} {enc : α → List Value} {k : Nat} {v : Value} {l : List α} {R : List (Nat × Obj)}
theorem iX {t e : TypeId} {x j : Operand} {z : IntKind} {i : Int} {x0 : α} (u : P.underlying t = some (.slice e)) (he : ∀ w, (sizeOf e).run P w = .ok k w) (y : aS E x = v) (r : aS E j = .int z i) (h : bG e' enc k v l R) (n : 0 ≤ i) (s : l[i.toNat]? = some x0) :
    ∃ p, uk R k p i.toNat ∧ ∀ W, er P E ⟨d, .indexAddr t x j, ty, pos, af, g⟩ W p W := by
  have b : i.toNat < l.length := (List.getElem?a.1 s).1
  rcases h with ⟨rfl, rfl, rfl⟩ | ⟨m, cap, cur, rfl, rfl, A, D, F, G⟩
  · simp at b
  refine ⟨.pointer (some ⟨m, i.toNat * k, none⟩), ⟨_, _, rfl, rfl⟩, fun W => ?_⟩
  show (do pure (.value (← Instr.indexAt t (aS E x) (aS E j))) : Sem Next).run P W = _
  rw [y, r]
  have q : 0 ≤ i ∧ i < (l.length : Int) := ⟨n, by omega⟩
  simp [Instr.indexAt, asIntOf, run_underlying u, he W, q, Addr.add_lit]
theorem vm (h : bG e' enc k v l R) (z : ∀ x, (enc x).length = k) {p : Value} {i : Nat} (hp : uk R k p i) {x0 : α} (q : l[i]? = some x0) :
    ∃ g cur cap, R = [(g, .cells cur e' (0, 0))] ∧ v = .slice (some ⟨g, 0, none⟩) l.length cap ∧ l.length ≤ cap ∧ cap ≤ maxLen ∧ cur.size = cap * k ∧ cur.toList.take (l.length * k) = (l.map enc).flatten ∧ p = .pointer (some ⟨g, i * k, none⟩) ∧ ∀ j y, (enc x0)[j]? = some y → cur[i * k + j]? = some y := by
  have m : i < l.length := (List.getElem?a.1 q).1
  rcases h with ⟨rfl, rfl, rfl⟩ | ⟨s, cap, cur, rfl, rfl, t, u, w, n⟩
  · simp at m
  obtain ⟨D, o, r, rfl⟩ := hp
  cases r
  refine ⟨s, cur, cap, rfl, rfl, t, u, w, n, rfl, fun j y A => ?_⟩
  have := pS z l i x0 q j y A
  rw [← n] at this
  have d : i * k + j < l.length * k := by
    have := (List.getElem?a.1 this).1
    simp at this; omega
  rw [List.getElem?b d] at this
  simpa using this
theorem oI {A : List (Nat × Obj)} (j : gd μ A W) (d : ∀ q, q ∈ R → q ∈ A) (h : bG e' enc k v l R) (a : ∀ x, (enc x).length = k) {p : Value} {i : Nat} (hp : uk R k p i) {x0 : α} (n : l[i]? = some x0) {t : TypeId} (g : ∀ w, (isAgg t).run P w = .ok true w) (m : ∀ w, (sizeOf t).run P w = .ok k w) : (Instr.loadAt t p).run P W = .ok (.agg (enc x0).toArray) W := by
  obtain ⟨r, cur, cap, rfl, rfl, _, _, _, _, rfl, b⟩ := vm h a hp n
  exact vZ g (enc x0) (by rw [a]; exact m) (j.2 _ _ (d _ (List.mem_singleton.2 rfl))) b
theorem xz {A : List (Nat × Obj)} (g : gd μ A W) (b : ∀ q, q ∈ R → q ∈ A) (h : bG e' enc k v l R) (j : ∀ x, (enc x).length = k) {p : Value} {i : Nat} (hp : uk R k p i) {x0 : α} (m : l[i]? = some x0) {t : TypeId} {y : Value} (n : enc x0 = [y]) (d : ∀ w, (isAgg t).run P w = .ok false w) : (Instr.loadAt t p).run P W = .ok y W := by
  obtain ⟨r, cur, cap, rfl, rfl, _, _, _, _, rfl, a⟩ := vm h j hp m
  exact wi d (g.2 _ _ (b _ (List.mem_singleton.2 rfl))) (a 0 y (by rw [n]; rfl))
theorem Ao (a : ∀ x, (enc x).length = k) : ∀ (l : List α) (i : Nat) (y : α), i < l.length → ((l.set i y).map enc).flatten = (l.map enc).flatten.take (i * k) ++ enc y ++ (l.map enc).flatten.drop (i * k + k)
  | [], i, y, h => by simp at h
  | z :: l, 0, y, h => by
    simp [a]
  | z :: l, i + 1, y, h => by
    have := Ao a l i y (by simpa using h)
    simp only [List.set_cons_succ, List.map_cons, List.flatten_cons, this]
    have b : (i + 1) * k = (enc z).length + i * k := by rw [a, Nat.add_mul]; omega
    rw [b, List.take_length_add_append, Nat.add_assoc, List.drop_length_add_append]
    simp
theorem Gk {K : Value → World → Prop} (X : List (Nat × Obj)) {Y : List (Nat × Obj)} {t : TypeId} {x y : Operand} {p u : Value} {i : Nat} {x0 x1 : α} (j : ST dd F w W μ (X ++ (R ++ Y))) (h : bG e' enc k v l R) (m : ∀ x, (enc x).length = k) (M : ∀ x, ∀ u ∈ enc x, u.oneCell' = true) (hx : aS E x = p) (hy : aS E y = u) (hu : u.cells = (enc x1).toArray) (hp : uk R k p i) (I : l[i]? = some x0) (U : ∀ w, (sizeOf t).run P w = .ok k w) (T : ∀ W' R', ST dd F w W' μ (X ++ (R' ++ Y)) → bG e' enc k v (l.set i x1) R' → K undef W') : fQ P E ⟨d, .store t x y, ty, pos, af, g⟩ W K := by
  have z : i < l.length := (List.getElem?a.1 I).1
  obtain ⟨q, cur, cap, rfl, rfl, G, O, s, Q, rfl, h6⟩ := vm h m hp I
  have hle : i * k + k ≤ cap * k := by
    have : (i + 1) * k ≤ cap * k := Nat.mul_le_mul_right _ (by omega)
    A [Nat.add_mul, Nat.one_mul] at this
  have n : i * k + k ≤ l.length * k := by
    have : (i + 1) * k ≤ l.length * k := Nat.mul_le_mul_right _ (by omega)
    A [Nat.add_mul, Nat.one_mul] at this
  have b : u.cells.size = k := by rw [hu]; simp [m]
  have Z := (j.box q (.cells cur e' (0, 0)) (by simp)).1
  have hlen : l.length * k ≤ cap * k := Nat.mul_le_mul_right _ G
  refine .inr (.inl ⟨W.setRow q (cur.toList.take (i * k) ++ (enc x1) ++ cur.toList.drop (i * k + k)).toArray, ?_, T _ [(q, .cells (cur.toList.take (i * k) ++ (enc x1) ++ cur.toList.drop (i * k + k)).toArray e' (0, 0))] (j.store _) (.inr ⟨q, cap, _, by simp, rfl, by simpa using G, O, ?_, ?_⟩)⟩)
  · show (do Instr.storeAt t (aS E x) (aS E y); pure .skip : Sem Next).run P W = _
    rw [hx, hy]
    have := te P (off := i * k) u (by rw [b]; exact U) (by rw [hu]; simpa using M x1) Z (by rw [b, s]; exact hle)
    simp only [Sem.run_bind, this, Result.andThen_ok, Sem.run_pure, b]
    rw [hu]
  · show ((cur.toList.take (i * k) ++ (enc x1) ++ cur.toList.drop (i * k + k)).toArray).size = _
    have r : cur.toList.length = cap * k := by simpa using s
    rw [List.size_toArray, List.length_append, List.length_append, List.length_take, List.length_drop, m, r, Nat.min_eq_left (by omega)]; omega
  · rw [List.length_set, Ao m l i x1 z, ← Q]
    have J : (cur.toList.take (l.length * k)).take (i * k) = cur.toList.take (i * k) := by rw [List.take_take]; congr 1; omega
    have L : (cur.toList.take (l.length * k)).drop (i * k + k) = (cur.toList.drop (i * k + k)).take (l.length * k - (i * k + k)) := by rw [List.drop_take]
    rw [J, L]
    show List.take (l.length * k) (cur.toList.take (i * k) ++ enc x1 ++ cur.toList.drop (i * k + k)) = _
    have r : cur.toList.length = cap * k := by simpa using s
    have D : (cur.toList.take (i * k) ++ enc x1).length = i * k + k := by rw [List.length_append, List.length_take, m, r, Nat.min_eq_left (by omega)]
    rw [List.take_append, List.take_of_length_le (by rw [D]; exact n), D]
theorem xZ (a : ∀ x, (enc x).length = k) : ∀ (l : List α) (i : Nat), i ≤ l.length → ((l.take i).map enc).flatten = (l.map enc).flatten.take (i * k)
  | [], i, h => by simp
  | z :: l, 0, h => by simp
  | z :: l, i + 1, h => by
    have := xZ a l i (by simpa using h)
    simp only [List.take_succ_cons, List.map_cons, List.flatten_cons, this]
    rw [show (i + 1) * k = (enc z).length + i * k by rw [a, Nat.add_mul]; omega, List.take_length_add_append]
theorem yC {t e : TypeId} {x ih : Operand} {F : IntKind} {i : Int} (m : P.underlying t = some (.slice e)) (he : ∀ w, (sizeOf e).run P w = .ok k w) (n : aS E x = v) (j : aS E ih = .int F i) (h : bG e' enc k v l R) (A : ∀ x, (enc x).length = k) (r : 0 ≤ i) (D : i ≤ l.length) :
    ∃ p, bG e' enc k p (l.take i.toNat) R ∧ ∀ W, er P E ⟨d, .slice t x none (some ih) none, ty, pos, af, g⟩ W p W := by
  have a : i.toNat ≤ l.length := by omega
  rcases h with ⟨rfl, rfl, rfl⟩ | ⟨b, cap, cur, rfl, rfl, G, s, u, y⟩
  · have : i = 0 := by simp at D; omega
    subst this
    refine ⟨.slice none 0 0, .inl ⟨rfl, by simp, rfl⟩, fun W => ?_⟩
    show (do pure (.value (← Instr.sliceAt t (aS E x) none (some (aS E ih)) none)) : Sem Next).run P W = _
    rw [n, j]
    simp [Instr.sliceAt, Instr.slice, Instr.sliceBounds, Instr.sliceBound, asIntOf, run_underlying m, he W]
  · refine ⟨.slice (some ⟨b, 0, none⟩) (l.take i.toNat).length cap, .inr ⟨b, cap, cur, rfl, rfl, by simp; omega, s, u, ?_⟩, fun W => ?_⟩
    · have q : (l.take i.toNat).length = i.toNat := by rw [List.length_take]; omega
      have hle : i.toNat * k ≤ l.length * k := Nat.mul_le_mul_right _ a
      rw [q, xZ A l i.toNat a, ← y, List.take_take, Nat.min_eq_left hle]
    · show (do pure (.value (← Instr.sliceAt t (aS E x) none (some (aS E ih)) none)) : Sem Next).run P W = _
      rw [n, j]
      have z : 0 ≤ i ∧ i ≤ (cap : Int) := ⟨r, by omega⟩
      simp [Instr.sliceAt, Instr.slice, Instr.sliceBounds, Instr.sliceBound, asIntOf, run_underlying m, he W, z, Addr.add_lit]
      omega
theorem vV {z : jq α} {t e : TypeId} {x s : Operand} {ik : IntKind} {i : Int} (Y : P.underlying t = some (.slice e)) (he : ∀ w, (sizeOf e).run P w = .ok k w) (n : aS E x = v) (O : aS E s = .int ik i) (h : Sl z k μ v l) (D : 0 ≤ i) (Q : i ≤ l.length) :
    ∃ u, (Sl z k μ u (l.drop i.toNat) ∧ ∀ B, Fr B v → Fr B u) ∧ ∀ W, er P E ⟨d, .slice t x (some s) none none, ty, pos, af, g⟩ W u W := by
  obtain ⟨A, c, rfl, h2, h3, F⟩ := h
  have R : i.toNat ≤ l.length := by omega
  refine ⟨.slice (if c = i.toNat then A else A.map (·.add (i.toNat * k))) (l.drop i.toNat).length (c - i.toNat), ⟨⟨_, _, rfl, by simp; omega, by omega, fun hp => ?_⟩, fun B M b m => ?_⟩, fun W => ?_⟩
  · have U : i.toNat < l.length := by simp at hp; omega
    obtain ⟨b, off, cs, T, fr, rfl, G, I⟩ := F (by omega)
    refine ⟨b, off + i.toNat * k, cs, T, fr, ?_, G, fun j x n => ?_⟩
    · rw [if_neg (by omega)]; simp [Addr.add_lit]
    · rw [List.getElem?p] at n
      obtain ⟨ys, J, L, r⟩ := I _ x n
      refine ⟨ys, J, L, fun q y Z => ?_⟩
      have := r q y Z
      rw [Nat.add_mul] at this
      rw [show off + i.toNat * k + j * k + q = off + (i.toNat * k + j * k) + q by omega]
      exact this
  · refine M b ?_
    cases A with
    | none => simp [Value.ownBlock] at m
    | some a =>
      split at m
      · exact m
      · obtain ⟨b', o', s'⟩ := a
        cases s' <;> simp [Value.ownBlock, Addr.add] at m ⊢ <;> split at m <;> exact m
  · show (do pure (.value (← Instr.sliceAt t (aS E x) (some (aS E s)) none none)) : Sem Next).run P W = _
    rw [n, O]
    have m : 0 ≤ i ∧ i ≤ (l.length : Int) := ⟨D, Q⟩
    simp [Instr.sliceAt, Instr.slice, Instr.sliceBounds, Instr.sliceBound, asIntOf, run_underlying Y, he W, m]
end
end Go.Proofs.YtmlncblocfcmiaaGreat
namespace Go.Proofs.YtmlncblocfcmiaaGreat
open Go.RowKit
variable {dd : Bool}
section
variable {α : Type} {e : TypeId} {enc : α → List Value} {k : Nat} {v : Value} {l : List α} {R : List (Nat × Obj)} {μ : bW}
theorem bG.one (h : bG e enc k v l R) : v.oneCell' = true := by obtain ⟨A, c, rfl⟩ := h.form; rfl
theorem Sl.one {a : jq α} (h : Sl a k μ v l) : v.oneCell' = true := by obtain ⟨A, c, rfl⟩ := h.form; rfl
theorem Sl.isNil {d : jq α} {n c : Nat} (h : Sl d k μ (.slice none n c) l) : l = [] := by
  obtain ⟨A, m, g, p, q, i⟩ := h
  cases g
  rcases Nat.eq_zero_or_pos l.length with a | a
  · exact List.length_eq_zero_iff.1 a
  · obtain ⟨b, off, cs, T, fr, j, _⟩ := i a
    cases j
theorem bG.isNil {n c : Nat} (h : bG e enc k (.slice none n c) l R) : l = [] := by
  rcases h with ⟨a, rfl, rfl⟩ | ⟨g, cap, cur, a, _⟩
  · rfl
  · cases a
theorem ST.Me {w W : World} {μ : bW} {L1 L2 : List (Nat × Obj)} (h : ST dd cC w W μ (L1 ++ L2)) : nw dd [] L1 w W :=
  nw.DF h.ex (fun b o a => ⟨(h.box b o (List.mem_append_left _ a)).1, by
    rcases (h.box b o (List.mem_append_left _ a)).2.2 with h | h
    · exact h
    · exact h.elim⟩) (by have := h.nd; rw [List.map_append] at this; exact (List.nodup_append.1 this).1)
theorem ST.Md {w W : World} {μ : bW} {L0 L1 L2 : List (Nat × Obj)} (h : ST dd (keys L0) w W μ (L1 ++ L2)) : nw dd L0 L1 w W :=
  ⟨⟨h.os, h.tape, h.output, h.drawn, h.size, h.eO⟩, fun b o a => ⟨(h.box b o (List.mem_append_left _ a)).1, (h.box b o (List.mem_append_left _ a)).2.2⟩, by have := h.nd; rw [List.map_append] at this; exact (List.nodup_append.1 this).1⟩
end
end Go.Proofs.YtmlncblocfcmiaaGreat
namespace Go.Proofs.YtmlncblocfcmiaaGreat
open Go.RowKit
variable {dd : Bool}
def dE {κ β : Type} (beq : κ → κ → Bool) (l : List (κ × β)) (k : κ) : Option β := (l.find? (fun p => beq k p.1)).map (·.2)
def gH {κ β : Type} (beq : κ → κ → Bool) (l : List (κ × β)) (k : κ) (v : β) : List (κ × β) :=
  match l.findIdx? (fun p => beq k p.1) with
  | some i => l.set i (k, v)
  | none => l ++ [(k, v)]
structure nY {κ β : Type} (kenc : κ → Value) (vf : β → Value) (l : List (κ × β)) (es : Array MapEntry) (clock : Nat) : Prop where
  zp : es.toList.map (fun e => (e.key, e.val)) = l.map (fun p => (kenc p.1, vf p.2))
  born : es.toList.Pairwise (fun a b => a.born < b.born)
  lt : ∀ e ∈ es.toList, e.born < clock
def ej {κ β : Type} (kenc : κ → Value) (vf : β → Value) (v : Value) (l : List (κ × β)) (R : List (Nat × Obj)) : Prop :=
  ∃ m es clock, v = .map (some m) ∧ R = [(m, .map es clock)] ∧ nY kenc vf l es clock
def pI {κ β : Type} (kenc : κ → Value) (vf : β → Value) (μ : bW) (v : Value) (l : List (κ × β)) : Prop :=
  (v = .map none ∧ l = []) ∨ ∃ m es clock, v = .map (some m) ∧ μ m = some (.map es clock) ∧ nY kenc vf l es clock
theorem pI.mono {κ β : Type} {kenc : κ → Value} {vf : β → Value} {μ μ' : bW} {v : Value} {l : List (κ × β)} (h : pI kenc vf μ v l) (g : bO μ μ') : pI kenc vf μ' v l := by
  rcases h with h | ⟨m, es, clock, a, b, d⟩
  · exact .inl h
  · exact .inr ⟨m, es, clock, a, g _ _ b, d⟩
theorem ej.at {κ β : Type} {kenc : κ → Value} {vf : β → Value} {μ : bW} {v : Value} {l : List (κ × β)} {R : List (Nat × Obj)} (h : ej kenc vf v l R) (d : ∀ b o, (b, o) ∈ R → μ b = some o) : pI kenc vf μ v l := by
  obtain ⟨m, es, clock, rfl, rfl, a⟩ := h
  exact .inr ⟨m, es, clock, rfl, d _ _ (List.mem_singleton.2 rfl), a⟩
structure iZ {κ : Type} (P : Program) (kt : TypeId) (kenc : κ → Value) (beq : κ → κ → Bool) : Prop where
  check : ∀ b k W, (Instr.checkKey b 10000 kt (kenc k)).run P W = .ok () W
  find : ∀ (k : κ) (l : List κ) (es : List MapEntry), es.map (·.key) = l.map kenc → ∀ W, (Instr.findKey kt (kenc k) es).run P W = .ok ((l.findIdx? (fun x => beq k x)).bind fun i => (es[i]?).map fun e => (i, e.val)) W
  eq : ∀ k x, beq k x = true → kenc x = kenc k
  bits : ∀ k, Instr.sameBits 10000 (kenc k) (kenc k) = true
section
variable {P : Program} {W : World} {κ : Type} {kt : TypeId} {kenc : κ → Value} {beq : κ → κ → Bool}
theorem wL (b : ∀ x y W, (Op.equal kt (kenc x) (kenc y)).run P W = .ok (beq x y) W) (k : κ) : ∀ (l : List κ) (es : List MapEntry) (i : Nat), es.map (·.key) = l.map kenc →
    (Instr.findAsking kt (kenc k) es i).run P W = .ok ((l.findIdx? (fun x => beq k x)).bind fun j => (es[j]?).map fun e => (i + j, e.val)) W
  | [], [], i, h => by simp [Instr.findAsking]
  | [], _ :: _, i, h => by simp at h
  | _ :: _, [], i, h => by simp at h
  | x :: l, e :: es, i, h => by
    simp only [List.map_cons, List.cons.injEq] at h
    obtain ⟨d, g⟩ := h
    simp only [Instr.findAsking, Sem.run_bind, d, b, Result.andThen_ok, List.findIdx?a]
    cases m : beq k x with
    | true => simp
    | false =>
      simp only [Bool.false_eq_true, if_false]
      rw [wL b k l es (i + 1) g]
      cases l.findIdx? (fun x => beq k x) with
      | none => rfl
      | some j => simp [Nat.add_assoc, Nat.add_comm 1 j]
theorem Ff {kind : TypeDesc} (d : ∀ a b, Instr.sameNow kind (.agg a) b = none) (a : Array Value) : ∀ (es : List MapEntry) (i : Nat), Instr.findNow kind (.agg a) es i = if es = [] then some none else none
  | [], i => by simp [Instr.findNow]
  | e :: es, i => by simp [Instr.findNow, d]
theorem iZ.struct {enc : κ → List Value} {fs : Array Field} (p : P.underlying kt = some (.struct fs)) (n : ∀ d x y W, (Op.equalIn (d + 10) kt (.agg (enc x).toArray) (.agg (enc y).toArray)).run P W = .ok (beq x y) W) (m : ∀ b k W, (Instr.checkKey b 10000 kt (.agg (enc k).toArray)).run P W = .ok () W) (he : ∀ k x, beq k x = true → x = k) (j : ∀ k, Instr.sameBits 10000 (.agg (enc k).toArray) (.agg (enc k).toArray) = true) : iZ P kt (fun x => .agg (enc x).toArray) beq where
  check := m
  find := fun k l es h W => by
    have g : ∀ x y W, (Op.equal kt (.agg (enc x).toArray) (.agg (enc y).toArray)).run P W = .ok (beq x y) W := fun x y W => n 9990 x y W
    simp only [Instr.findKey, Sem.run_bind, run_underlying p, Result.andThen_ok]
    rw [Ff (fun a b => by cases b <;> rfl)]
    by_cases i : es = []
    · subst i
      have : l = [] := by simpa using h.symm
      subst this
      simp
    · rw [if_neg i]
      dsimp only
      rw [show Instr.findAsking kt (.agg (enc k).toArray) es = Instr.findAsking kt (.agg (enc k).toArray) es 0 from rfl, wL g k l es 0 h]
      simp
  eq := fun k x h => by rw [he k x h]
  bits := j
theorem eB {a b : ByteArray} : dA a b = true ↔ a = b := by
  unfold dA
  rw [ByteArray.toList_eq, ByteArray.toList_eq]
  constructor
  · intro h
    have d : a.data.toList = b.data.toList := by simpa using h
    exact ByteArray.ext (Array.toList_inj.1 d)
  · rintro rfl
    simp
theorem yI (a b : ByteArray) : (a == b) = dA a b := by
  rw [Bool.eq_iff_iff, eB]
  constructor
  · intro h
    have d : (a.data == b.data) = true := h
    exact ByteArray.ext (by simpa using d)
  · rintro rfl
    show (a.data == a.data) = true
    simp
theorem wz (k : ByteArray) : ∀ (l : List ByteArray) (es : List MapEntry) (i : Nat), es.map (·.key) = l.map Value.string →
    Instr.findNow .string (.string k) es i = some ((l.findIdx? (fun x => dA k x)).bind fun j => (es[j]?).map fun e => (i + j, e.val))
  | [], [], i, h => by simp [Instr.findNow]
  | [], _ :: _, i, h => by simp at h
  | _ :: _, [], i, h => by simp at h
  | x :: l, e :: es, i, h => by
    simp only [List.map_cons, List.cons.injEq] at h
    obtain ⟨b, d⟩ := h
    simp only [Instr.findNow, b, Instr.sameNow, yI, List.findIdx?a]
    cases g : dA k x with
    | true => simp
    | false =>
      simp only [Bool.false_eq_true, if_false]
      rw [wz k l es (i + 1) d]
      cases l.findIdx? (fun x => dA k x) with
      | none => rfl
      | some j => simp [Nat.add_assoc, Nat.add_comm 1 j]
theorem sh (a : P.underlying kt = some .string) (n : Nat) (b : Bool) (k : ByteArray) (W : World) : (Instr.checkKey b (n + 1) kt (.string k)).run P W = .ok () W := by
  simp [Instr.checkKey, run_underlying a]
theorem iZ.string (a : P.underlying kt = some .string) : iZ P kt Value.string dA where
  check := fun b k W => sh a 9999 b k W
  find := fun k l es h W => by
    simp only [Instr.findKey, Sem.run_bind, run_underlying a, Result.andThen_ok]
    have := wz k l es 0 h
    rw [this]
    simp
  eq := fun k x h => by rw [eB.1 h]
  bits := fun k => by simp only [Instr.sameBits]; rw [yI]; exact eB.2 rfl
variable {β : Type} {vf : β → Value} {E : Nat → Value} {d : Option Nat} {ty : TypeId} {pos : String} {af : Array Edge} {g : Option (Nat × Bool)} {F : Nat → Prop} {w : World} {μ : bW} {L : List (Nat × Obj)}
theorem nY.keys {l : List (κ × β)} {es : Array MapEntry} {clock : Nat} (h : nY kenc vf l es clock) : es.toList.map (·.key) = (l.map (·.1)).map kenc := by
  have := congrArg (List.map Prod.fst) h.zp
  simpa [Function.comp_def] using this
theorem nY.length {l : List (κ × β)} {es : Array MapEntry} {clock : Nat} (h : nY kenc vf l es clock) : es.size = l.length := by
  have := congrArg List.length h.zp
  simpa using this
theorem nY.get {l : List (κ × β)} {es : Array MapEntry} {clock : Nat} (h : nY kenc vf l es clock) (k : κ) :
    (((l.map (·.1)).findIdx? (fun x => beq k x)).bind fun i => (es.toList[i]?).map fun e => (i, e.val)) = (l.findIdx? (fun p => beq k p.1)).bind fun i => (l[i]?).map fun p => (i, vf p.2) := by
  rw [List.findIdx?a]
  show ((l.findIdx? (fun p => beq k p.1)).bind _) = _
  congr 1
  funext i
  have := congrArg (fun q => q[i]?) h.zp
  simp only [List.getElem?a] at this
  cases d : es.toList[i]? with
  | none => rw [d] at this; cases b : l[i]? with
    | none => rfl
    | some p => rw [b] at this; cases this
  | some e => rw [d] at this; cases b : l[i]? with
    | none => rw [b] at this; cases this
    | some p => rw [b] at this; simp at this; simp [this.2]
theorem rz (l : List (κ × β)) (k : κ) : dE beq l k = (l.findIdx? (fun p => beq k p.1)).bind fun i => (l[i]?).map (·.2) := by
  induction l with
  | nil => rfl
  | cons p l ih =>
    simp only [dE, List.find?a, List.findIdx?a] at ih ⊢
    cases beq k p.1 with
    | true => rfl
    | false =>
      simp only [Bool.false_eq_true, if_false]
      rw [ih]
      cases l.findIdx? (fun p => beq k p.1) <;> simp
theorem DQ {t e : TypeId} {m x : Operand} {s z : Value} {l : List (κ × β)} {k : κ} (K : iZ P kt kenc beq) (q : P.underlying t = some (.map kt e)) (b : ∀ w, (zeroValue e).run P w = .ok z w) (hm : aS E m = s) (A : aS E x = kenc k) (v : pI kenc vf (hp W) s l) :
    er P E ⟨d, .lookup t m x false, ty, pos, af, g⟩ W (((dE beq l k).map vf).getD z) W := by
  show (do pure (.value (← Instr.lookup t (aS E m) (aS E x) false)) : Sem Next).run P W = _
  rw [hm, A]
  rcases v with ⟨rfl, rfl⟩ | ⟨r, es, clock, rfl, y, h⟩
  · have := K.find k [] [] rfl W
    simp [Instr.lookup, run_underlying q, K.check, this, b W, dE]
  · have a : W.heap[r]? = some (.map es clock) := y
    have u : ((getObj r : Sem Obj)).run P W = .ok (.map es clock) W := by simp [getObj, Sem.run, a]
    have j := K.find k _ _ h.keys W
    rw [h.get k] at j
    simp only [Instr.lookup, Sem.run_bind, run_underlying q, Result.andThen_ok, u, Sem.run_pure, K.check, j, rz]
    cases D : l.findIdx? (fun p => beq k p.1) with
    | none => simp [b W]
    | some i =>
      cases n : l[i]? with
      | none => simp [n, b W]
      | some p => simp [n]
theorem lG {l : List (κ × β)} {k : κ} {i : Nat} (h : l.findIdx? (fun p => beq k p.1) = some i) : ∃ p, l[i]? = some p ∧ beq k p.1 = true := by
  rw [List.findIdx?a] at h
  obtain ⟨d, g, _⟩ := h
  exact ⟨l[i], List.getElem?b d, g⟩
theorem nY.put {l : List (κ × β)} {es : Array MapEntry} {clock : Nat} (h : nY kenc vf l es clock) (k : κ) (v : β) :
    match l.findIdx? (fun p => beq k p.1) with
    | some i => nY kenc vf (l.set i (k, v)) (es.modify i fun e => { e with key := kenc k, val := vf v }) clock
    | none => nY kenc vf (l ++ [(k, v)]) (es.push { key := kenc k, val := vf v, born := clock }) (clock + 1) := by
  cases y : l.findIdx? (fun p => beq k p.1) with
  | none =>
    refine ⟨?_, ?_, ?_⟩
    · simp [h.zp]
    · simp only [Array.toList_push, List.pairwise_append]
      exact ⟨h.born, by simp, fun a ha b x => by simp at x; subst x; exact h.lt a ha⟩
    · intro e he
      simp at he
      rcases he with he | rfl
      · exact Nat.lt_succ_of_lt (h.lt e (by simpa using he))
      · exact Nat.lt_succ_self _
  | some i =>
    obtain ⟨p, hp, _⟩ := lG y
    have D : i < l.length := (List.getElem?n.1 hp).1
    have m : (es.modify i fun e => { e with key := kenc k, val := vf v }).toList.map (·.born) = es.toList.map (·.born) := by
      apply List.ext_getElem?
      intro j
      simp only [List.getElem?r, Array.getElem?d, Array.getElem?g]
      split
      · cases es[j]? <;> simp
      · rfl
    refine ⟨?_, ?_, ?_⟩
    · apply List.ext_getElem?
      intro j
      have t := congrArg (fun q => q[j]?) h.zp
      simp only [List.getElem?r, Array.getElem?d] at t
      simp only [List.getElem?r, Array.getElem?d, Array.getElem?g, List.getElem?w]
      by_cases s : i = j
      · subst s
        simp only [if_true]
        rw [if_pos D]
        cases z : es[i]? with
        | none => rw [z, hp] at t; cases t
        | some e => rfl
      · rw [if_neg s, if_neg s]; exact t
    · have := h.born
      rw [← List.pairwise_map (f := fun e : MapEntry => e.born) (R := (· < ·))] at this ⊢
      rw [m]; exact this
    · intro e he
      have : e.born ∈ es.toList.map (·.born) := by rw [← m]; exact List.mem_map.2 ⟨e, he, rfl⟩
      obtain ⟨e', u, A⟩ := List.mem_map.1 this
      rw [← A]; exact h.lt e' u
theorem rZ {W : World} {r : Nat} {es : Array MapEntry} {c : Nat} (b : W.heap[r]? = some (.map es c)) (a : Obj) : (setObj r a).run P W = .ok () (ChangeMaps.setBlock W r a) := by
  simp [setObj, Sem.run, b, ChangeMaps.setBlock]
theorem ST.setBlock {A B : List (Nat × Obj)} {b : Nat} {o : Obj} (h : ST dd F w W μ (A ++ (b, o) :: B)) (i : Obj) : ST dd F w (ChangeMaps.setBlock W b i) μ (A ++ (b, i) :: B) := by
  have j := (h.box b o (by simp)).1
  have g := gC j
  refine h.put ⟨rfl, rfl, rfl, Nat.le_refl _, by simp [ChangeMaps.setBlock]⟩ (fun k l => ?_) ?_
  · simp only [ChangeMaps.setBlock]
    rw [Array.getElem?d (fun e => l e.symm)]
  · simp only [ChangeMaps.setBlock]
    rw [Array.getElem?a g]
theorem vR {J : Value → World → Prop} (X : List (Nat × Obj)) {Y R : List (Nat × Obj)} {t e : TypeId} {m x y : Operand} {I : Value} {l : List (κ × β)} {k : κ} {v : β} (K : iZ P kt kenc beq) (Q : P.underlying t = some (.map kt e)) (n : ST dd F w W μ (X ++ (R ++ Y))) (h : ej kenc vf I l R) (hm : aS E m = I) (U : aS E x = kenc k) (Z : aS E y = vf v) (O : ∀ W' R', ST dd F w W' μ (X ++ (R' ++ Y)) → ej kenc vf I (gH beq l k v) R' → J undef W') : fQ P E ⟨d, .mapUpdate t m x y, ty, pos, af, g⟩ W J := by
  obtain ⟨b, es, clock, rfl, rfl, A⟩ := h
  have D : W.heap[b]? = some (.map es clock) := (n.box b (.map es clock) (by simp)).1
  have M : ((getObj b : Sem Obj)).run P W = .ok (.map es clock) W := by simp [getObj, Sem.run, D]
  have r := K.find k _ _ A.keys W
  rw [A.get k] at r
  have a := A.put (beq := beq) k v
  have j : ∀ W', (Instr.mapUpdate t (.map (some b)) (kenc k) (vf v)).run P W = .ok () W' → (execOp (aS E) ⟨d, .mapUpdate t m x y, ty, pos, af, g⟩).run P W = .ok .skip W' := by
    intro W' T
    show (do Instr.mapUpdate t (aS E m) (aS E x) (aS E y); pure .skip : Sem Next).run P W = _
    rw [hm, U, Z]
    simp [T]
  cases u : l.findIdx? (fun p => beq k p.1) with
  | none =>
    rw [u] at r a
    refine .inr (.inl ⟨ChangeMaps.setBlock W b (.map (es.push { key := kenc k, val := vf v, born := clock }) (clock + 1)), j _ ?_, O _ [(b, _)] (n.setBlock _) ⟨b, _, _, rfl, rfl, ?_⟩⟩)
    · simp [Instr.mapUpdate, run_underlying Q, M, K.check, r, rZ D]
    · rw [gH, u]; exact a
  | some i =>
    obtain ⟨p, hp, G⟩ := lG u
    rw [u] at r a
    simp only [Option.bind_some, hp, Option.map_some] at r
    have z : ((es[i]?).map (·.key)).getD (kenc k) = kenc k := by
      have := congrArg (fun q => q[i]?) A.keys
      simp only [List.getElem?L, hp, Option.map_some, Array.getElem?s] at this
      rw [this]
      simp [K.eq k p.1 G]
    refine .inr (.inl ⟨ChangeMaps.setBlock W b (.map (es.modify i fun e => { e with key := kenc k, val := vf v }) clock), j _ ?_, O _ [(b, _)] (n.setBlock _) ⟨b, _, _, rfl, rfl, ?_⟩⟩)
    · simp only [Instr.mapUpdate, Sem.run_bind, run_underlying Q, M, K.check, r, Result.andThen_ok, z, Instr.keyThatStays, K.bits, if_true, Sem.run_pure]
      exact rZ D _
    · rw [gH, u]; exact a
theorem CD {b : Value → World → Prop} {t : TypeId} (kenc : κ → Value) (vf : β → Value) (a : ST dd F w W μ L) (h : ∀ W' v R, ST dd F w W' μ (R ++ L) → ej kenc vf v [] R → b v W') : fQ P E ⟨d, .makeMap t none, ty, pos, af, g⟩ W b :=
  .inl ⟨.map (some W.heap.size), W.alloc (.map #[] 0), by
      show (do pure (.value (← Instr.makeMap t none)) : Sem Next).run P W = _
      simp [Instr.makeMap, newObj, Sem.run], h _ _ [(W.heap.size, .map #[] 0)] (a.alloc _) ⟨_, _, _, rfl, rfl, ⟨rfl, by simp, by simp⟩⟩⟩
end
end Go.Proofs.YtmlncblocfcmiaaGreat
namespace Go.Proofs.YtmlncblocfcmiaaGreat
open Go.RowKit
variable {dd : Bool}
open Classical in
noncomputable def xW {α β : Type} (l : List α) (f : List α → Option β) : Option β :=
  if h : ∃ r, ∀ o, o.Perm l → f o = some r then some h.choose else none
theorem BN {α β : Type} {l : List α} {f : List α → Option β} {r : β} (h : ∀ o, o.Perm l → f o = some r) : xW l f = some r := by
  have b : ∃ r, ∀ o, o.Perm l → f o = some r := ⟨r, h⟩
  unfold xW
  rw [dif_pos b]
  have a := b.choose_spec l (.refl l)
  rw [h l (.refl l)] at a
  exact a.symm
end Go.Proofs.YtmlncblocfcmiaaGreat
namespace Go.Proofs.YtmlncblocfcmiaaGreat
open Go.RowKit
variable {dd : Bool}
def Mx {α β : Type} (P : Program) (fv : Value) (μ : bW) (a : α → List Value) (b : β → Value) (pm : α → Option β) : Prop :=
  ∃ f caps, fv = .func (.func f) #[] caps ∧ (∀ args w, (callFunc f args).run P w = .ok (.enter f args) w) ∧ ∀ W x r, bO μ (hp W) → pm x = some r → bF true P f (a x ++ caps.toList) W (b r)
def ui {α β : Type} (P : Program) (fv : Value) (μ : bW) (a : α → List Value) (b : β → Value) (pm : α → Option β) : Prop :=
  ∃ f first caps, fv = .func (.func f) first caps ∧ (∀ args w, (callFunc f args).run P w = .ok (.enter f args) w) ∧ ∀ W x r, bO μ (hp W) → pm x = some r → bF false P f (first.toList ++ (a x ++ caps.toList)) W (b r)
theorem ui.form {α β : Type} {P : Program} {fv : Value} {μ : bW} {d : α → List Value} {g : β → Value} {pm : α → Option β} (h : ui P fv μ d g pm) : ∃ f a b, fv = .func f a b := let ⟨f, a, b, h, _⟩ := h; ⟨_, a, b, h⟩
section
variable {P : Program} {W : World} {E : Nat → Value} {d : Option Nat} {ty : TypeId} {pos : String} {af : Array Edge} {g : Option (Nat × Bool)} {F : Nat → Prop} {w : World} {μ μ0 : bW} {L : List (Nat × Obj)}
theorem ui.mono {α β : Type} {fv : Value} {a : α → List Value} {b : β → Value} {pm : α → Option β} (h : ui P fv μ a b pm) (j : bO μ μ0) : ui P fv μ0 a b pm := by
  obtain ⟨f, first, caps, d, g, i⟩ := h
  exact ⟨f, first, caps, d, g, fun W x r h => i W x r (j.trans h)⟩
theorem I8 {α β : Type} {K : Value → World → Prop} {fv : Value} {b : α → List Value} {k : β → Value} {pm : α → Option β} {i : Operand} {ax : Array Operand} {ats : Array TypeId} (x : α) {r : β} (a : ST false F w W μ L) (q : ui P fv μ0 b k pm) (t : bO μ0 μ) (s : aS E i = fv) (ha : ax.map (aS E) ++ (#[] : Array Value) = (b x).toArray) (hm : pm x = some r) (h : ∀ W', ST false F w W' μ L → K (k r) W') : fQ P E ⟨d, .call ⟨.value i, ax, ats⟩, ty, pos, af, g⟩ W K := by
  obtain ⟨f, first, caps, rfl, l, m⟩ := q
  have j : ax.map (aS E) = (b x).toArray := by simpa using ha
  refine .inr (.inr ⟨f, (first.toList ++ (b x ++ caps.toList)).toArray, ?_, Calls.mono (m W x r (t.trans a.aP) hm) (fun _ _ ⟨n, p⟩ => ⟨_, n, h _ (a.DI p)⟩)⟩)
  show (do let d ← resolve (aS E) ⟨.value i, ax, ats⟩ ty; invoke d.target d.args : Sem Next).run P W = _
  simp only [resolve, s, Deferred.ofValue, Sem.run_bind, Sem.run_pure, Result.andThen_ok, invoke, j, l]
  congr 2
  simp
end
end Go.Proofs.YtmlncblocfcmiaaGreat
namespace Go.Proofs.YtmlncblocfcmiaaGreat
open Go.RowKit
variable {dd : Bool}
def uj (A : List (Nat × Obj)) : bW := fun b => (A.find? (fun p => p.1 == b)).map (·.2)
theorem el {A : List (Nat × Obj)} {W : World} (h : ∀ b o, (b, o) ∈ A → W.heap[b]? = some o) : ∀ b o, uj A b = some o → W.heap[b]? = some o := fun b o d => by
  unfold uj at d
  cases g : A.find? (fun p => p.1 == b) with
  | none => rw [g] at d; cases d
  | some p =>
    rw [g] at d
    cases d
    have k := List.mem_of_find?a g
    have j := List.find?i g
    simp at j
    subst j
    exact h _ _ k
theorem At.of {M : bW} {b : Nat} {cs : Array Value} {T : TypeId} {fr : Nat × Nat} (h : M b = some (.cells cs T fr)) (ys : List Value) (d : cs.toList = ys) : At M (.pointer (some ⟨b, 0, none⟩)) ys :=
  ⟨b, 0, cs, T, fr, rfl, h, fun j y a => by subst d; simpa using a⟩
section
variable {F : Nat → Prop} {w W W' : World} {μ μ' : bW} {L L0 L1 L2 : List (Nat × Obj)}
theorem ST.F2 (h : ST dd F w W μ L) (a : L.Perm (L0 ++ L2)) : ∀ b o, (b, o) ∈ L2 → nK W L0 b = some o := fun b o d => by
  have g := (h.perm a).at_ (List.mem_append_right _ d)
  unfold nK
  rw [if_neg (zn (h.perm a).nd d)]
  exact g
theorem ST.held (h : ST dd F w W μ L) (a : L.Perm (L0 ++ L2)) : yr L0 W := fun b o d => ((h.perm a).box b o (List.mem_append_left _ d)).1
theorem ST.Li (h : ST dd F w W μ L) (a : L.Perm (L0 ++ L2)) : (L0.map (·.1)).Nodup := by
  have := (h.perm a).nd
  rw [List.map_append] at this
  exact (List.nodup_append.1 this).1
theorem ST.KC (h : ST dd F w W μ L) (a : L.Perm (L0 ++ L2)) : bO μ (nK W L0) := (h.perm a).cJ (fun _ hp => List.mem_append_left _ hp)
end
section
variable {P : Program} {E : Nat → Value} {W : World} {d : Option Nat} {ty : TypeId} {pos : String} {af : Array Edge} {g : Option (Nat × Bool)}
  {F : Nat → Prop} {w : World} {μ : bW} {L : List (Nat × Obj)}
theorem J7 {K : Value → World → Prop} {K' : Value → List (Nat × Obj) → World → Prop} {f : FuncId} {fv : Operand} {ax : Array Operand} {ats : Array TypeId} {caps : Array Value} {args : List Value} (L0 L2 : List (Nat × Obj)) (a : ST dd F w W μ L) (i : L.Perm (L0 ++ L2)) (p : aS E fv = .func (.func f) #[] caps) (he : ∀ args w, (callFunc f args).run P w = .ok (.enter f args) w) (ha : ax.map (aS E) ++ (#[] : Array Value) = args.toArray) (n : yr L0 W → (L0.map (·.1)).Nodup → bO μ (nK W L0) → (∀ b o, (b, o) ∈ L2 → nK W L0 b = some o) → dV dd P f (args ++ caps.toList) W L0 K') (h : ∀ W' v μ' L1, ST dd F w W' μ' (L1 ++ L2) → bO μ μ' → Lo F w μ μ' → (∀ b, W.heap.size ≤ b → ∀ o, nK W' L1 b = some o → μ' b = some o) → K' v L1 W' → K v W') : fQ P E ⟨d, .call ⟨.value fv, ax, ats⟩, ty, pos, af, g⟩ W K := by
  have j : ax.map (aS E) = args.toArray := by simpa using ha
  refine zu (args := (args ++ caps.toList).toArray) p he (by rw [j]; simp) (Calls.mono (n (a.held i) (a.Li i) (a.KC i) (a.F2 i)) (fun _ W' ⟨v, L1, k, l, m⟩ => ⟨v, k, h W' v _ L1 ((a.perm i).back l) ((a.perm i).CQ W' L1) ((a.perm i).Ea W' L1) ?_ m⟩))
  intro b r o q
  unfold vH
  rw [if_neg (by omega)]
  exact q
theorem Sl.lift {α : Type} {enc : α → List Value} {k : Nat} {M μ' : bW} {B : Nat} {v : Value} {l : List α} (h : Sl (Pl enc) k M v l) (q : Fr B v) (p : ∀ b, B ≤ b → ∀ o, M b = some o → μ' b = some o) : Sl (Pl enc) k μ' v l := by
  obtain ⟨A, c, a, g, i, j⟩ := h
  refine ⟨A, c, a, g, i, fun r => ?_⟩
  obtain ⟨b, off, cs, T, fr, d, m, n⟩ := j r
  exact ⟨b, off, cs, T, fr, d, p b (q b (by rw [a, d]; rfl)) _ m, n⟩
theorem AG {t : TypeId} (dd : Nat) {s u : Array TypeId} {b : Bool} (d : P.underlying t = some (.func s u b)) (f : Fn) (a c : Array Value) (W : World) : (Op.equalIn (dd + 1) t (.func f a c) .nilFunc).run P W = .ok false W := by
  simp [Op.equalIn, run_underlying d]
end
def tC {κ β : Type} (beq : κ → κ → Bool) (l : List (κ × β)) (k : κ) (z : β) : β := (dE beq l k).getD z
section
variable {P : Program} {W : World} {κ β : Type} {kt : TypeId} {kenc : κ → Value} {beq : κ → κ → Bool} {vf : β → Value} {E : Nat → Value} {d : Option Nat} {ty : TypeId} {pos : String} {af : Array Edge} {g : Option (Nat × Bool)} {F : Nat → Prop} {w : World} {μ : bW} {L R : List (Nat × Obj)} {v : Value} {left : List (κ × β)}
theorem tT {t e : TypeId} {m x : Operand} {a : Value} {l : List (κ × β)} {k : κ} {z : β} (K : iZ P kt kenc beq) (i : P.underlying t = some (.map kt e)) (n : ∀ w, (zeroValue e).run P w = .ok (vf z) w) (hm : aS E m = a) (j : aS E x = kenc k) (b : pI kenc vf (hp W) a l) :
    er P E ⟨d, .lookup t m x false, ty, pos, af, g⟩ W (vf (tC beq l k z)) W := by
  have := DQ (d := d) (ty := ty) (pos := pos) (af := af) (g := g) K i n hm j b
  rw [tC]
  cases h : dE beq l k with
  | none => rw [h] at this; exact this
  | some y => rw [h] at this; exact this
theorem ej.one {a : Value} {l : List (κ × β)} (h : ej kenc vf a l R) : a.oneCell' = true := by obtain ⟨m, es, clock, rfl, _⟩ := h; rfl
theorem ej.form {a : Value} {l : List (κ × β)} (h : ej kenc vf a l R) : ∃ m, a = .map (some m) := by obtain ⟨m, es, clock, rfl, _⟩ := h; exact ⟨m, rfl⟩
theorem ej.nd {a : Value} {l : List (κ × β)} (h : ej kenc vf a l R) : (R.map (·.1)).Nodup := by obtain ⟨m, es, clock, rfl, rfl, _⟩ := h; simp
end
def ie {α : Type} (l : List α) (i : Nat) (z : α) : List α := l.take i ++ List.replicate (l.length - i) z
theorem pb {α : Type} (l : List α) (i : Nat) (z : α) (h : i ≤ l.length) : (ie l i z).length = l.length := by simp [ie]; omega
theorem zP {α : Type} (l : List α) (i : Nat) (z : α) (h : i ≤ l.length) : (ie l i z).take i = l.take i := by
  simp only [ie]
  rw [List.take_append, List.take_of_length_le (by simp; omega)]
  simp; omega
end Go.Proofs.YtmlncblocfcmiaaGreat
namespace Go.Proofs.YtmlncblocfcmiaaGreat
open Go.RowKit
theorem CR {P : Program} {cs : Array Value} {b : Bool} {n : Nat} {W : World} : ∀ (l : List Field),
    (∀ f ∈ l, f.name ≠ "_" → ∃ v, (part f.type cs f.offset).run P W = .ok v W ∧ (Instr.checkKey b n f.type v).run P W = .ok () W) →
    ((forIn l PUnit.unit fun f (_ : PUnit) => do
      if f.name ≠ "_" then Instr.checkKey b n f.type (← part f.type cs f.offset)
      pure (ForInStep.yield PUnit.unit)) : Sem PUnit).run P W = .ok PUnit.unit W
  | [], _ => by simp
  | f :: l, h => by
    have ih := CR l (fun f i => h f (List.mem_cons_of_mem _ i))
    simp only [List.forIn_cons, Sem.run_bind]
    by_cases a : f.name ≠ "_"
    · obtain ⟨v, d, g⟩ := h f (by simp) a
      simp only [if_pos a, Sem.run_bind, d, Result.andThen_ok, g, Sem.run_pure]
      exact ih
    · simp only [if_neg a, Sem.run_bind, Sem.run_pure, Result.andThen_ok]
      exact ih
theorem A8 {P : Program} {kt : TypeId} {fs : Array Field} {l : List Field} {cs : Array Value} {b : Bool} {n : Nat} {W : World} (d : P.underlying kt = some (.struct fs)) (a : fs.toList = l) (h : ∀ f ∈ l, f.name ≠ "_" → ∃ v, (part f.type cs f.offset).run P W = .ok v W ∧ (Instr.checkKey b n f.type v).run P W = .ok () W) : (Instr.checkKey b (n + 1) kt (.agg cs)).run P W = .ok () W := by
  obtain ⟨fs⟩ := fs
  subst a
  simp only [Instr.checkKey, Sem.run_bind, run_underlying d, Result.andThen_ok, List.forIn_toArray]
  have := CR (P := P) (cs := cs) (b := b) (n := n) (W := W) fs h
  simp only [Sem.run_bind] at this
  first | rw [this]; rfl | simpa using this
end Go.Proofs.YtmlncblocfcmiaaGreat
namespace Go.Proofs.YtmlncblocfcmiaaGreat
open Go.RowKit
variable {dd : Bool}
def lR (b : Bool) : Option Unit := if b = true then some () else none
theorem EL {b : Bool} {u : Unit} (h : lR b = some u) : b = true := by
  unfold lR at h; split at h
  · assumption
  · cases h
theorem oO {a c : Int} {u : Unit} (h : lR (decide (0 ≤ a) && decide (a ≤ c)) = some u) : 0 ≤ a := by have := EL h; simp at this; exact this.1
theorem oJ {a c : Int} {u : Unit} (h : lR (decide (0 ≤ a) && decide (a ≤ c)) = some u) : a ≤ c := by have := EL h; simp at this; exact this.2
def uv (k : Nat) (v : Value) (i : Nat) (u : Value) : Prop := ∃ A n c A' a, v = .slice A n c ∧ u = .slice A' (n - i) a ∧ i ≤ n ∧ (i < n → ∃ b o, A = some ⟨b, o, none⟩ ∧ A' = some ⟨b, o + i * k, none⟩)
section
variable {P : Program} {E : Nat → Value} {W : World} {d : Option Nat} {ty : TypeId} {pos : String} {af : Array Edge} {g : Option (Nat × Bool)}
  {F : Nat → Prop} {w : World} {μ : bW} {L : List (Nat × Obj)} {α : Type} {e' : TypeId} {enc : α → List Value} {k : Nat} {v : Value} {l : List α} {R : List (Nat × Obj)}
theorem tp {t e : TypeId} {x a : Operand} {y : IntKind} {i : Int} (n : P.underlying t = some (.slice e)) (he : ∀ w, (sizeOf e).run P w = .ok k w) (p : aS E x = v) (j : aS E a = .int y i) (h : bG e' enc k v l R) (q : 0 ≤ i) (m : i ≤ l.length) :
    ∃ u, uv k v i.toNat u ∧ ∀ W, er P E ⟨d, .slice t x (some a) none none, ty, pos, af, g⟩ W u W := by
  rcases h with ⟨rfl, rfl, rfl⟩ | ⟨b, cap, cur, rfl, rfl, z, A, D, F⟩
  · have : i = 0 := by simp at m; omega
    subst this
    refine ⟨.slice none 0 0, ⟨none, 0, 0, none, 0, rfl, rfl, Nat.le_refl _, fun h => absurd h (by simp)⟩, fun W => ?_⟩
    show (do pure (.value (← Instr.sliceAt t (aS E x) (some (aS E a)) none none)) : Sem Next).run P W = _
    rw [p, j]
    simp [Instr.sliceAt, Instr.slice, Instr.sliceBounds, Instr.sliceBound, asIntOf, run_underlying n, he W]
  · refine ⟨.slice (some (if cap = i.toNat then ⟨b, 0, none⟩ else (Addr.add ⟨b, 0, none⟩ (i.toNat * k)))) (l.length - i.toNat) (cap - i.toNat), ⟨_, _, _, _, _, rfl, rfl, by omega, fun s => ⟨b, 0, rfl, ?_⟩⟩, fun W => ?_⟩
    · rw [if_neg (by omega)]; simp [Addr.add_lit]
    · show (do pure (.value (← Instr.sliceAt t (aS E x) (some (aS E a)) none none)) : Sem Next).run P W = _
      rw [p, j]
      have r : 0 ≤ i ∧ i ≤ (l.length : Int) := ⟨q, m⟩
      simp [Instr.sliceAt, Instr.slice, Instr.sliceBounds, Instr.sliceBound, asIntOf, run_underlying n, he W, r]
      split <;> rfl
theorem uS {i j : Nat} {x0 : α} (h : (l.drop i)[j]? = some x0) : l[i + j]? = some x0 := by b [List.getElem?a] at h
theorem Di {t e : TypeId} {x : Operand} {u : Value} {i : Nat} (j : P.underlying t = some (.slice e)) (m : aS E x = u) (hu : uv k v i u) (h : bG e' enc k v l R) : er P E ⟨d, .call ⟨.builtin .len, #[x], #[t]⟩, ty, pos, af, g⟩ W (.int .i64 ((l.length - i : Nat) : Int)) W := by
  obtain ⟨A, n, c, A', p, a, b, r, _⟩ := hu
  subst b
  have : n = l.length := by
    rcases h with ⟨rfl, rfl, rfl⟩ | ⟨q, cap, cur, rfl, rfl, _⟩
    · cases a; rfl
    · cases a; rfl
  subst this
  exact uD j m
theorem tG {t e : TypeId} {x q : Operand} {M : IntKind} {i : Int} {x0 : α} {u : Value} {o : Nat} (J : P.underlying t = some (.slice e)) (he : ∀ w, (sizeOf e).run P w = .ok k w) (L : aS E x = u) (G : aS E q = .int M i) (h : bG e' enc k v l R) (hu : uv k v o u) (z : 0 ≤ i) (I : (l.drop o)[i.toNat]? = some x0) :
    ∃ p, uk R k p (o + i.toNat) ∧ ∀ W, er P E ⟨d, .indexAddr t x q, ty, pos, af, g⟩ W p W := by
  have j := uS I
  have m : o + i.toNat < l.length := (List.getElem?a.1 j).1
  rcases h with ⟨rfl, rfl, rfl⟩ | ⟨y, cap, cur, rfl, rfl, Q, T, U, Y⟩
  · simp at m
  obtain ⟨A, n, c, A', O, r, rfl, Z, D⟩ := hu
  cases r
  obtain ⟨b, oo, s, rfl⟩ := D (by omega)
  cases s
  refine ⟨.pointer (some ⟨y, (o + i.toNat) * k, none⟩), ⟨_, _, rfl, rfl⟩, fun W => ?_⟩
  show (do pure (.value (← Instr.indexAt t (aS E x) (aS E q))) : Sem Next).run P W = _
  rw [L, G]
  have F : 0 ≤ i ∧ i < ((l.length - o : Nat) : Int) := ⟨z, by omega⟩
  simp [Instr.indexAt, asIntOf, run_underlying J, he W, F, Addr.add_lit, Nat.add_mul]
theorem B5 (ys : List Value) (m : Nat) : (Builtin.zeroCells ys.toArray m).toList = (List.replicate m ys).flatten := by
  unfold Builtin.zeroCells
  simp only [Array.toList_map, Array.toList_range, List.size_toArray]
  rcases Nat.eq_zero_or_pos ys.length with b | b
  · have : ys = [] := List.length_eq_zero_iff.1 b
    subst this
    simp
  apply List.ext_getElem?
  intro q
  by_cases g : q < m * ys.length
  · have h : q / ys.length < m := (Nat.div_lt_iff_lt_mul b).2 g
    have d : q % ys.length < ys.length := Nat.mod_lt _ b
    have := pS (enc := fun _ : Unit => ys) (fun _ => rfl) (List.replicate m ()) (q / ys.length) () (by simp [h]) (q % ys.length) ys[q % ys.length] (by simp [d])
    rw [Nat.div_add_mod' q ys.length] at this
    rw [List.map_replicate] at this
    rw [this]
    simp [g, d]
  · rw [List.getElem?a (by simp; omega), List.getElem?a (by simp; omega)]
theorem E8 {K : Value → World → Prop} (z : α) (X : List (Nat × Obj)) {Y : List (Nat × Obj)} {t e : TypeId} {x : Operand} {u Z : Value} {i : Nat} (j : ST dd F w W μ (X ++ (R ++ Y))) (h : bG e' enc k v l R) (hk : ∀ x, (enc x).length = k) (h1 : ∀ x, ∀ u ∈ enc x, u.oneCell' = true) (O : P.underlying t = some (.slice e)) (hz : ∀ w, (zeroValue e).run P w = .ok Z w) (hu : uv k v i u) (hc : Z.cells = (enc z).toArray) (hx : aS E x = u) (L : ∀ W' R', ST dd F w W' μ (X ++ (R' ++ Y)) → bG e' enc k v (ie l i z) R' → K (.tuple #[]) W') : fQ P E ⟨d, .call ⟨.builtin .clear, #[x], #[t]⟩, ty, pos, af, g⟩ W K := by
  have a : ∀ (W' : World), (Builtin.clear_ #[t] ty #[u]).run P W = .ok (.tuple #[]) W' → (execOp (aS E) ⟨d, .call ⟨.builtin .clear, #[x], #[t]⟩, ty, pos, af, g⟩).run P W = .ok (.value (.tuple #[])) W' := by
    intro W' hV
    show (do let d ← resolve (aS E) ⟨.builtin .clear, #[x], #[t]⟩ ty; invoke d.target d.args : Sem Next).run P W = _
    simp [resolve, invoke, builtin, hx, hV]
  obtain ⟨A, n, c, A', c', e1, rfl, D, h8⟩ := hu
  rcases h with ⟨rfl, rfl, rfl⟩ | ⟨s, cap, cur, rfl, rfl, U, q2, I, q4⟩
  · cases e1
    refine .inl ⟨_, W, a W ?_, L W [] j (by simpa [ie] using bG.nil e' enc k)⟩
    simp only [Builtin.clear_, Nat.zero_sub]
    cases A' <;> simp [run_underlying O]
  · cases e1
    by_cases hi : i < l.length
    · obtain ⟨b, o, e2, rfl⟩ := h8 hi
      cases e2
      have T : ∀ m, (Builtin.zeroCells Z.cells m).toList = (List.replicate m (enc z)).flatten := by
        intro m
        rw [hc]; exact B5 _ _
      have hb := (j.box s (.cells cur e' (0, 0)) (by simp)).1
      have hle : i * k + (l.length - i) * k = l.length * k := by rw [← Nat.add_mul]; congr 1; omega
      have hlen : l.length * k ≤ c * k := Nat.mul_le_mul_right _ U
      have p : ((List.replicate (l.length - i) (enc z)).flatten).length = (l.length - i) * k := by simp [hk]
      have y : ∀ v ∈ (List.replicate (l.length - i) (enc z)).flatten, v.oneCell' = true := by
        intro v G
        obtain ⟨ys, Q, G⟩ := List.mem_flatten.1 G
        rw [(List.mem_replicate.1 Q).2] at G
        exact h1 z v G
      have hs := run_storeCells_at (P := P) s (i * k) e' ((List.replicate (l.length - i) (enc z)).flatten) 0 cur W hb (by rw [p, I]; omega) y
      rw [Nat.add_zero, p, hle] at hs
      refine .inl ⟨_, W.setRow s (cur.toList.take (i * k) ++ (List.replicate (l.length - i) (enc z)).flatten ++ cur.toList.drop (l.length * k)).toArray, a _ ?_, L _ [(s, .cells (cur.toList.take (i * k) ++ (List.replicate (l.length - i) (enc z)).flatten ++ cur.toList.drop (l.length * k)).toArray e' (0, 0))] (j.store _) (.inr ⟨s, c, _, by rw [pb _ _ _ D], rfl, by rw [pb _ _ _ D]; exact U, q2, ?_, ?_⟩)⟩
      · have hn : l.length - i = (l.length - i - 1) + 1 := by omega
        simp only [Builtin.clear_]
        rw [hn]
        simp only [run_underlying O, Sem.run_bind, Result.andThen_ok, List.getElem?r, List.getElem?q, hz, Nat.zero_add]
        rw [← hn, T, hs]
        simp
      · have J : cur.toList.length = c * k := by simpa using I
        rw [List.size_toArray, List.length_append, List.length_append, List.length_take, List.length_drop, p, J, Nat.min_eq_left (by omega)]
        omega
      · rw [pb _ _ _ D, ie, List.map_append, List.flatten_append, xZ hk l i D, ← q4, List.take_take, Nat.min_eq_left (by omega), List.map_replicate]
        have J : cur.toList.length = c * k := by simpa using I
        have e3 : (cur.toList.take (i * k) ++ (List.replicate (l.length - i) (enc z)).flatten).length = l.length * k := by rw [List.length_append, List.length_take, p, J, Nat.min_eq_left (by omega)]; omega
        show List.take (l.length * k) (cur.toList.take (i * k) ++ (List.replicate (l.length - i) (enc z)).flatten ++ cur.toList.drop (l.length * k)) = _
        rw [List.take_append, List.take_of_length_le (by rw [e3]; exact Nat.le_refl _), e3, Nat.sub_self]
        simp
    · have M : i = l.length := by omega
      subst M
      refine .inl ⟨_, W, a W ?_, L W _ j ?_⟩
      · simp only [Builtin.clear_, Nat.sub_self]
        cases A' <;> simp [run_underlying O]
      · simp only [ie, List.take_length, Nat.sub_self, List.replicate_zero, List.append_nil]
        exact .inr ⟨s, c, cur, rfl, rfl, U, q2, I, q4⟩
end
end Go.Proofs.YtmlncblocfcmiaaGreat
namespace Go.Proofs.YtmlncblocfcmiaaGreat
open Go.RowKit
variable {dd : Bool}
section
variable {P : Program} {E : Nat → Value} {W : World} {d : Option Nat} {ty : TypeId} {pos : String} {af : Array Edge} {g : Option (Nat × Bool)}
  {F : Nat → Prop} {w : World} {μ : bW} {L : List (Nat × Obj)}
theorem F7 {K : Value → World → Prop} {f : FuncId} {fv : Operand} {ax : Array Operand} {ats : Array TypeId} {args : List Value} {v : Value} (b : aS E fv = .func (.func f) #[] #[]) (ha : ax.map (aS E) ++ (#[] : Array Value) = args.toArray) (i : (callFunc f args.toArray).run P W = .ok (.value v) W) (h : K v W) : fQ P E ⟨d, .call ⟨.value fv, ax, ats⟩, ty, pos, af, g⟩ W K := by
  have a : ax.map (aS E) = args.toArray := by simpa using ha
  refine .inl ⟨v, W, ?_, h⟩
  show (do let d ← resolve (aS E) ⟨.value fv, ax, ats⟩ ty; invoke d.target d.args : Sem Next).run P W = _
  simp only [resolve, b, Deferred.ofValue, Sem.run_bind, Sem.run_pure, Result.andThen_ok, invoke]
  rw [a]
  simpa using i
def qw (s : ByteArray) (c : Int) : Int := Lib.indexByte s.data.toList c.toNat.toUInt8
def iO (a b : ByteArray) : Int := Lib.compareBytes a.data.toList b.data.toList
def nt (l : List Int) : List UInt8 := l.map fun x => x.toNat.toUInt8
def rI (a b : List Int) : Int := Lib.compareBytes (nt a) (nt b)
theorem Cv {f : FuncId} {fn : Func} (d : P.funcs[f]? = some fn) (a : (fn.name == "runtime.NumGoroutine") = false) (b : fn.body.isNone = true) (g : Extern.findNext fn = none) (he : Extern.find fn = some Extern.BytealgIndexByte.indexByte) (s : ByteArray) (c : Int) (w : World) :
    (callFunc f [Value.string s, .int .u8 c].toArray).run P w = .ok (.value (.int .i64 (qw s c))) w := by
  rw [run_callFunc_extern d a b g he]
  rw [Lib.run_indexByteString]
  rfl
theorem I5 {f : FuncId} {fn : Func} (h : P.funcs[f]? = some fn) (d : (fn.name == "runtime.NumGoroutine") = false) (g : fn.body.isNone = true) (i : Extern.findNext fn = none) (he : Extern.find fn = some Extern.BytealgCompare.compare) (a b : ByteArray) (w : World) :
    (callFunc f [Value.string a, .string b].toArray).run P w = .ok (.value (.int .i64 (iO a b))) w := by
  rw [run_callFunc_extern h d g i he]
  rw [Lib.run_compareString]
  rfl
theorem xI {v : Value} {l : List Int} (h : Sl (Pl (dM .u8)) 1 (hp W) v l) : (Extern.Bytes.bytesOf v).run P W = .ok ⟨(nt l).toArray⟩ W := by
  obtain ⟨A, c, rfl, p, q, i⟩ := h
  rcases Nat.eq_zero_or_pos l.length with a | a
  · have : l = [] := List.length_eq_zero_iff.1 a
    subst this
    cases A <;> simp [Extern.Bytes.bytesOf, Extern.Bytes.loadBytes, nt] <;> rfl
  · obtain ⟨b, off, cs, T, fr, rfl, k, m⟩ := i a
    have := Lib.run_loadBytesX (P := P) W l ⟨b, off, none⟩ .empty (fun j x n => by
      obtain ⟨ys, _, g, d⟩ := m j x n
      cases g
      rw [Addr.add_lit, cell_of_row W b (off + j) cs T fr k]
      have := d 0 (.int .u8 x) rfl
      simpa using this)
    simp only [Extern.Bytes.bytesOf]
    rw [this]
    congr 1
    apply ByteArray.ext
    show (#[] : Array UInt8) ++ _ = _
    simp [Lib.bytesOf, nt]
theorem IP {f : FuncId} {fn : Func} (l : P.funcs[f]? = some fn) (d : (fn.name == "runtime.NumGoroutine") = false) (k : fn.body.isNone = true) (m : Extern.findNext fn = none) (he : Extern.find fn = some Extern.BytealgCompare.compare) {g h : Value} {a b : List Int} (i : Sl (Pl (dM .u8)) 1 (hp W) g a) (j : Sl (Pl (dM .u8)) 1 (hp W) h b) :
    (callFunc f [g, h].toArray).run P W = .ok (.value (.int .i64 (rI a b))) W := by
  rw [run_callFunc_extern l d k m he]
  have : (Extern.BytealgCompare.compare [g, h].toArray).run P W = .ok (.int .i64 (rI a b)) W := by
    change Sem.run P (do pure (goInt (Extern.BytealgCompare.cmp (← Extern.Bytes.bytesOf g) (← Extern.Bytes.bytesOf h)))) W = _
    simp only [Sem.run_bind, xI i, xI j, Sem.run_pure, Result.andThen]
    rw [Lib.cmp_eq]
    rfl
  rw [this]
  rfl
theorem Bv {t e : TypeId} {k b m c o : Nat} {x a : Operand} {s : IntKind} {i : Int} (q : P.underlying t = some (.slice e)) (he : ∀ w, (sizeOf e).run P w = .ok k w) (r : aS E x = .slice (some ⟨b, 0, none⟩) m c) (l : aS E a = .int s i) (h : 0 ≤ i) (n : i < (m : Int)) (p : i.toNat * k = o) :
    er P E ⟨d, .indexAddr t x a, ty, pos, af, g⟩ W (.pointer (some ⟨b, o, none⟩)) W := by
  show (do pure (.value (← Instr.indexAt t (aS E x) (aS E a))) : Sem Next).run P W = _
  rw [r, l]
  subst p
  have j : 0 ≤ i ∧ i < (m : Int) := ⟨h, n⟩
  simp [Instr.indexAt, asIntOf, run_underlying q, he W, j, Addr.add_lit]
theorem lC {fn : Fn} {caps : Array Operand} {cs : List Value} {v : Value} (a : caps.map (aS E) ++ (#[] : Array Value) = cs.toArray) (b : .func fn #[] cs.toArray = v) : er P E ⟨d, .makeFunc fn #[] caps, ty, pos, af, g⟩ W v W := by
  have : caps.map (aS E) = cs.toArray := by simpa using a
  exact Gw (by rw [this]; simpa using b)
theorem dV.mono {f : FuncId} {args : List Value} {L0 : List (Nat × Obj)} {K K' : Value → List (Nat × Obj) → World → Prop} (h : dV dd P f args w L0 K) (g : ∀ v L1 W', K v L1 W' → K' v L1 W') : dV dd P f args w L0 K' :=
  Calls.mono h (fun _ _ ⟨v, L1, a, b, d⟩ => ⟨v, L1, a, b, g _ _ _ d⟩)
end
section
variable {α : Type}
def nF (cf : α × α → Option Int) (x y : α) : Bool := match cf (x, y) with
  | some c => decide (c < 0)
  | none => false
structure yE (cf : α × α → Option Int) (l : List α) : Prop where
  is : ∀ x ∈ l, ∀ y ∈ l, ∃ c, cf (x, y) = some c
  irrefl : ∀ x ∈ l, nF cf x x = false
  trans : ∀ x ∈ l, ∀ y ∈ l, ∀ z ∈ l, nF cf x y = true → nF cf y z = true → nF cf x z = true
  total : ∀ x ∈ l, ∀ y ∈ l, nF cf x y = false → nF cf y x = false → x = y
  short : l.length < 4611686018427387904
def mW (cf : α × α → Option Int) (l : List α) : List α := l.mergeSort fun x y => !nF cf y x
open Classical in
noncomputable def tF (cf : α × α → Option Int) (l : List α) : Option (List α) := if yE cf l then some (mW cf l) else none
theorem Be {cf : α × α → Option Int} {l r : List α} (h : tF cf l = some r) : yE cf l ∧ r = mW cf l := by
  unfold tF at h
  split at h
  · a b; cases h; exact ⟨b, rfl⟩
  · cases h
theorem IL {cf : α × α → Option Int} {l : List α} (h : yE cf l) : tF cf l = some (mW cf l) := by
  unfold tF; rw [if_pos h]
def oq (l : List ByteArray) : List ByteArray := l.mergeSort fun x y => !jz y x
end
end Go.Proofs.YtmlncblocfcmiaaGreat
namespace Go.Proofs.YtmlncblocfcmiaaGreat
open Go.RowKit
variable {dd : Bool}
def pO {κ γ : Type} (Q : Value → γ → List (Nat × Obj) → Prop) : List (κ × Value) → List (κ × γ) → List (Nat × Obj) → Prop
  | [], [], R => R = []
  | p :: a, q :: l, R => p.1 = q.1 ∧ ∃ R1 R2, R = R1 ++ R2 ∧ Q p.2 q.2 R1 ∧ pO Q a l R2
  | _, _, _ => False
def fk {κ γ : Type} (kenc : κ → Value) (Q : Value → γ → List (Nat × Obj) → Prop) (v : Value) (d : List (κ × Value)) (l : List (κ × γ)) (R : List (Nat × Obj)) : Prop :=
  ∃ a b, R = a ++ b ∧ ej kenc (fun x => x) v d a ∧ pO Q d l b
section
variable {κ γ : Type} {Q : Value → γ → List (Nat × Obj) → Prop} {beq : κ → κ → Bool} {kenc : κ → Value}
theorem pO.keys : ∀ {a : List (κ × Value)} {l : List (κ × γ)} {R : List (Nat × Obj)}, pO Q a l R → a.map (·.1) = l.map (·.1)
  | [], [], _, _ => rfl
  | [], _ :: _, _, h => h.elim
  | _ :: _, [], _, h => h.elim
  | p :: a, q :: l, R, h => by
    obtain ⟨b, R1, R2, _, _, d⟩ := h
    simp [b, pO.keys d]
theorem pO.find {b : List (κ × Value)} {l : List (κ × γ)} {R : List (Nat × Obj)} (h : pO Q b l R) (k : κ) : b.findIdx? (fun p => beq k p.1) = l.findIdx? (fun p => beq k p.1) := by
  have d : (b.map (·.1)).findIdx? (fun x => beq k x) = (l.map (·.1)).findIdx? (fun x => beq k x) := by rw [h.keys]
  rw [List.findIdx?a, List.findIdx?a] at d
  exact d
theorem pO.get : ∀ {g : List (κ × Value)} {l : List (κ × γ)} {R : List (Nat × Obj)}, pO Q g l R → ∀ (i : Nat) (k : κ) (x : γ), l[i]? = some (k, x) →
    ∃ v A R1 B, g[i]? = some (k, v) ∧ R = A ++ (R1 ++ B) ∧ Q v x R1 ∧ ∀ d v2 x2 R2, Q v2 x2 R2 → pO Q (g.set i (d, v2)) (l.set i (d, x2)) (A ++ (R2 ++ B))
  | [], [], _, _, i, k, x, b => by simp at b
  | [], _ :: _, _, h, _, _, _, _ => h.elim
  | _ :: _, [], _, h, _, _, _, _ => h.elim
  | p :: g, q :: l, R, h, 0, k, x, b => by
    obtain ⟨j, R1, R2, rfl, m, n⟩ := h
    simp at b
    subst b
    refine ⟨p.2, [], R1, R2, by simp only [List.getElem?a]; exact congrArg some (Prod.ext j rfl), rfl, m, fun d v2 x2 R2' r => ⟨rfl, R2', R2, rfl, r, n⟩⟩
  | p :: g, q :: l, R, h, i + 1, k, x, b => by
    obtain ⟨j, R1, R2, rfl, m, n⟩ := h
    simp at b
    obtain ⟨v, A, R1', B, s, rfl, t, u⟩ := pO.get n i k x b
    exact ⟨v, R1 ++ A, R1', B, by simpa using s, by simp, t, fun d v2 x2 R2' r => ⟨j, R1, A ++ (R2' ++ B), by simp, m, u d v2 x2 R2' r⟩⟩
theorem pO.push : ∀ {b : List (κ × Value)} {l : List (κ × γ)} {R : List (Nat × Obj)}, pO Q b l R → ∀ (k : κ) {v : Value} {x : γ} {R1 : List (Nat × Obj)}, Q v x R1 → pO Q (b ++ [(k, v)]) (l ++ [(k, x)]) (R ++ R1)
  | [], [], _, h, k, v, x, R1, a => by
    have i : _ = [] := h
    subst i
    exact ⟨rfl, R1, [], by simp, a, rfl⟩
  | [], _ :: _, _, h, _, _, _, _, _ => h.elim
  | _ :: _, [], _, h, _, _, _, _, _ => h.elim
  | p :: b, q :: l, R, h, k, v, x, R1, a => by
    obtain ⟨j, d, g, rfl, m, n⟩ := h
    exact ⟨j, d, g ++ R1, by simp, m, pO.push n k a⟩
theorem fk.found {D : Value} {g : List (κ × Value)} {l : List (κ × γ)} {R : List (Nat × Obj)} (J : ∀ {x y : κ}, beq x y = true → x = y) (h : fk kenc Q D g l R) {k : κ} {x : γ} (d : dE beq l k = some x) :
    ∃ v A R1 B, dE beq g k = some v ∧ R = A ++ (R1 ++ B) ∧ Q v x R1 ∧ (∀ x2 R2, Q v x2 R2 → fk kenc Q D g (gH beq l k x2) (A ++ (R2 ++ B))) := by
  obtain ⟨u, M, rfl, G, z⟩ := h
  rw [rz] at d
  cases n : l.findIdx? (fun p => beq k p.1) with
  | none => rw [n] at d; cases d
  | some i =>
    rw [n] at d
    obtain ⟨p, hp, I⟩ := lG n
    simp only [Option.bind_some, hp, Option.map_some, Option.some.injEq] at d
    subst d
    have t := J I
    obtain ⟨v, A, R1, B, q, rfl, E, F⟩ := z.get i p.1 p.2 hp
    have r : g.findIdx? (fun p => beq k p.1) = some i := by rw [z.find k, n]
    refine ⟨v, u ++ A, R1, B, by rw [rz, r]; simp [q], by simp, E, fun x2 R2 L => ⟨u, A ++ (R2 ++ B), by simp, G, ?_⟩⟩
    have b := F k v x2 R2 L
    have e : g.set i (k, v) = g := by
      apply List.ext_getElem?
      intro j
      rw [List.getElem?w]
      split
      · m s
        subst s
        rw [q, t]
        simp [(List.getElem?a.1 q).1]
      · rfl
    rw [e] at b
    rw [gH, n]
    exact b
theorem fk.GR {j : Value} {d : List (κ × Value)} {l : List (κ × γ)} {R : List (Nat × Obj)} (h : fk kenc Q j d l R) {k : κ} (a : dE beq l k = none) : dE beq d k = none := by
  obtain ⟨m, n, rfl, q, g⟩ := h
  rw [rz] at a ⊢
  rw [g.find k]
  cases b : l.findIdx? (fun p => beq k p.1) with
  | none => rfl
  | some i =>
    rw [b] at a
    obtain ⟨p, hp, r⟩ := lG b
    simp [hp] at a
def kL (beq : κ → κ → Bool) (a : List (κ × Value)) (k : κ) (z : Value) : Value := (dE beq a k).getD z
variable {P : Program} {W : World} {kt : TypeId} {E : Nat → Value} {d : Option Nat} {ty : TypeId} {pos : String} {af : Array Edge} {g : Option (Nat × Bool)} {F : Nat → Prop} {w : World} {μ : bW} {L : List (Nat × Obj)}
theorem iP {t e : TypeId} {m x : Operand} {i z : Value} {a : List (κ × Value)} {l : List (κ × γ)} {R : List (Nat × Obj)} {k : κ} (K : iZ P kt kenc beq) (r : P.underlying t = some (.map kt e)) (u : ∀ w, (zeroValue e).run P w = .ok z w) (hm : aS E m = i) (s : aS E x = kenc k) (p : fk kenc Q i a l R) (q : ∀ b o, (b, o) ∈ R → W.heap[b]? = some o) : er P E ⟨d, .lookup t m x false, ty, pos, af, g⟩ W (kL beq a k z) W := by
  obtain ⟨v, y, rfl, j, A⟩ := p
  have n := DQ (d := d) (ty := ty) (pos := pos) (af := af) (g := g) K r u hm s (j.at (μ := hp W) (fun b o h => q b o (List.mem_append_left _ h)))
  simpa [kL] using n
variable {κ2 β : Type} {kenc2 : κ2 → Value} {vf : β → Value} {beq2 : κ2 → κ2 → Bool} {kt2 : TypeId}
theorem fk.wZ {p : Value} {d : List (κ × Value)} {l : List (κ × List (κ2 × β))} {R : List (Nat × Obj)} (n : ∀ {x y : κ}, beq x y = true → x = y) (h : fk kenc (ej kenc2 vf) p d l R) (k : κ) {μ : bW} (j : ∀ b o, (b, o) ∈ R → μ b = some o) :
    pI kenc2 vf μ (kL beq d k (.map none)) ((dE beq l k).getD []) := by
  cases a : dE beq l k with
  | none => rw [kL, h.GR a]; exact .inl ⟨rfl, rfl⟩
  | some x =>
    obtain ⟨v, A, R1, B, g, rfl, i, _⟩ := h.found n a
    rw [kL, g]
    exact i.at (fun b o m => j b o (by simp [m]))
theorem fk.isNil {j : Value} {b : List (κ × Value)} {l : List (κ × List (κ2 × β))} {R : List (Nat × Obj)} (i : ∀ {x y : κ}, beq x y = true → x = y) (h : fk kenc (ej kenc2 vf) j b l R) (k : κ) :
    ∃ r, kL beq b k (.map none) = .map r ∧ r.isNone = (dE beq l k).isNone := by
  cases a : dE beq l k with
  | none => rw [kL, h.GR a]; exact ⟨none, rfl, rfl⟩
  | some x =>
    obtain ⟨v, A, R1, B, d, rfl, g, _⟩ := h.found i a
    obtain ⟨m, es, clock, rfl, _⟩ := g
    rw [kL, d]
    exact ⟨_, rfl, rfl⟩
def Af {κ κ2 β : Type} (beq : κ → κ → Bool) (beq2 : κ2 → κ2 → Bool) (l : List (κ × List (κ2 × β))) (k : κ) (a : κ2) (x : β) : Option (List (κ × List (κ2 × β))) := (dE beq l k).map fun b => gH beq l k (gH beq2 b a x)
def AM {κ γ : Type} (beq : κ → κ → Bool) (l : List (κ × γ)) (k : κ) (x : γ) : Option (List (κ × γ)) := if (dE beq l k).isNone then some (gH beq l k x) else none
theorem HQ {q : Value → World → Prop} (X : List (Nat × Obj)) {Y R : List (Nat × Obj)} {t e : TypeId} {m x y : Operand} {z : Value} {p : List (κ × Value)} {l s : List (κ × List (κ2 × β))} {k : κ} {r : κ2} {v : β} (O : ∀ {x y : κ}, beq x y = true → x = y) (K : iZ P kt2 kenc2 beq2) (Q : P.underlying t = some (.map kt2 e)) (i : ST dd F w W μ (X ++ (R ++ Y))) (h : fk kenc (ej kenc2 vf) z p l R) (hm : aS E m = kL beq p k (.map none)) (T : aS E x = kenc2 r) (U : aS E y = vf v) (b : Af beq beq2 l k r v = some s) (M : ∀ W' R', ST dd F w W' μ (X ++ (R' ++ Y)) → fk kenc (ej kenc2 vf) z p s R' → q undef W') : fQ P E ⟨d, .mapUpdate t m x y, ty, pos, af, g⟩ W q := by
  unfold Af at b
  cases j : dE beq l k with
  | none => rw [j] at b; cases b
  | some Z =>
    rw [j] at b
    cases b
    obtain ⟨u, A, R1, B, D, rfl, G, I⟩ := h.found O j
    have n : aS E m = u := by rw [hm, kL, D]; rfl
    have a : ST dd F w W μ ((X ++ A) ++ (R1 ++ (B ++ Y))) := by simpa using i
    refine vR (X ++ A) K Q a G n T U (fun W' R' J L => M W' (A ++ (R' ++ B)) ?_ (I _ _ L))
    simpa using J
theorem HN {D : Value → World → Prop} (X : List (Nat × Obj)) {Y R R2 : List (Nat × Obj)} {t e : TypeId} {m x y : Operand} {A : Value} {v : List (κ × Value)} {l J : List (κ × γ)} {k : κ} {u : Value} {z : γ} (K : iZ P kt kenc beq) (ht : P.underlying t = some (.map kt e)) (s : ST dd F w W μ (X ++ (R ++ (R2 ++ Y)))) (h : fk kenc Q A v l R) (hm : aS E m = A) (hx : aS E x = kenc k) (hy : aS E y = u) (hq : Q u z R2) (b : AM beq l k z = some J) (hK : ∀ W' R', ST dd F w W' μ (X ++ (R' ++ Y)) → fk kenc Q A (gH beq v k u) J R' → D undef W') : fQ P E ⟨d, .mapUpdate t m x y, ty, pos, af, g⟩ W D := by
  unfold AM at b
  cases n : dE beq l k with
  | some l2 => rw [n] at b; cases b
  | none =>
    rw [n] at b
    simp only [Option.isNone_none, if_true, Option.some.injEq] at b
    subst b
    have hn := h.GR n
    obtain ⟨M, r, rfl, U, Z⟩ := h
    have j : ST dd F w W μ (X ++ (M ++ (r ++ (R2 ++ Y)))) := by simpa using s
    refine vR X K ht j U hm hx hy (fun W' R' O T => hK W' (R' ++ (r ++ R2)) (by simpa using O) ⟨R', r ++ R2, rfl, T, ?_⟩)
    have G : ∀ {L : Type} (q : List (κ × L)) (y : L), dE beq q k = none → gH beq q k y = q ++ [(k, y)] := fun q y a => by
      rw [rz] at a
      rw [gH]
      cases I : q.findIdx? (fun p => beq k p.1) with
      | none => rfl
      | some i =>
        obtain ⟨p, hp, _⟩ := lG I
        rw [I] at a
        simp [hp] at a
    rw [G v u hn, G l z n]
    exact Z.push k hq
end
end Go.Proofs.YtmlncblocfcmiaaGreat
namespace Go.Proofs.YtmlncblocfcmiaaGreat
open Go.RowKit
variable {dd : Bool}
section
variable {κ γ : Type} {Q : Value → γ → List (Nat × Obj) → Prop} {beq : κ → κ → Bool} {kenc : κ → Value}
theorem kk {a : Type} {l : List (κ × a)} {k : κ} {i : Nat} (h : l.findIdx? (fun p => beq k p.1) = some i) (x : a) : gH beq l k x = l.set i (k, x) := by rw [gH, h]
theorem oC {a : Type} {l : List (κ × a)} {k : κ} (h : l.findIdx? (fun p => beq k p.1) = none) (x : a) : gH beq l k x = l ++ [(k, x)] := by rw [gH, h]
theorem yM {a : Type} {l : List (κ × a)} {k : κ} (h : l.findIdx? (fun p => beq k p.1) = none) : dE beq l k = none := by rw [rz, h]; rfl
theorem wU {a : Type} {l : List (κ × a)} {k : κ} {i : Nat} {p : κ × a} (h : l.findIdx? (fun p => beq k p.1) = some i) (hp : l[i]? = some p) : dE beq l k = some p.2 := by rw [rz, h]; simp [hp]
def Gn (beq : κ → κ → Bool) (kenc : κ → Value) (Q : Value → γ → List (Nat × Obj) → Prop) (d : Value) (b : List (κ × Value)) (l : List (κ × γ)) (k : κ) (R : List (Nat × Obj)) : Prop :=
  ∃ a A B, R = a ++ (A ++ B) ∧ ej kenc (fun x => x) d b a ∧ ∀ v x R1, Q v x R1 → pO Q (gH beq b k v) (gH beq l k x) (A ++ (R1 ++ B))
theorem fk.open (E : ∀ {x y : κ}, beq x y = true → x = y) {s z : Value} {x0 : γ} (m : Q z x0 []) {n : List (κ × Value)} {l : List (κ × γ)} {R : List (Nat × Obj)} (h : fk kenc Q s n l R) (k : κ) :
    ∃ R' R1, R.Perm (R' ++ R1) ∧ Q (kL beq n k z) ((dE beq l k).getD x0) R1 ∧ Gn beq kenc Q s n l k R' := by
  obtain ⟨d, q, rfl, r, g⟩ := h
  have b := g.find (beq := beq) k
  cases a : l.findIdx? (fun p => beq k p.1) with
  | none =>
    rw [a] at b
    refine ⟨d ++ q, [], by simp, ?_, d, q, [], by simp, r, fun v x R1 j => ?_⟩
    · rw [kL, yM a, yM b]; exact m
    · rw [oC a, oC b]; simpa using g.push k j
  | some i =>
    rw [a] at b
    obtain ⟨p, hp, D⟩ := lG a
    have F := E D
    obtain ⟨v, A, R1, B, t, rfl, u, w⟩ := g.get i p.1 p.2 hp
    refine ⟨d ++ (A ++ B), R1, ?_, ?_, d, A, B, rfl, r, fun v2 x2 R2 j => ?_⟩
    · rw [List.append_assoc, List.append_assoc]
      refine List.Perm.append_left _ (List.Perm.append_left _ List.perm_append_comm)
    · rw [kL, wU a hp, wU b t]; exact u
    · rw [kk a, kk b]; exact w k v2 x2 R2 j
variable {P : Program} {W : World} {kt : TypeId} {E : Nat → Value} {d : Option Nat} {ty : TypeId} {pos : String} {af : Array Edge} {g : Option (Nat × Bool)} {F : Nat → Prop} {w : World} {μ : bW} {L : List (Nat × Obj)}
theorem Lh {j : Value → World → Prop} (X : List (Nat × Obj)) {Y R R1 : List (Nat × Obj)} {t e : TypeId} {m x y : Operand} {i : Value} {n : List (κ × Value)} {l : List (κ × γ)} {k : κ} {u : Value} {z : γ} (K : iZ P kt kenc beq) (I : P.underlying t = some (.map kt e)) (b : ST dd F w W μ (X ++ (R ++ (R1 ++ Y)))) (h : Gn beq kenc Q i n l k R) (hm : aS E m = i) (J : aS E x = kenc k) (L : aS E y = u) (G : Q u z R1) (D : ∀ W' R', ST dd F w W' μ (X ++ (R' ++ Y)) → fk kenc Q i (gH beq n k u) (gH beq l k z) R' → j undef W') : fQ P E ⟨d, .mapUpdate t m x y, ty, pos, af, g⟩ W j := by
  obtain ⟨p, A, B, rfl, s, v⟩ := h
  have a : ST dd F w W μ (X ++ (p ++ (A ++ (B ++ (R1 ++ Y))))) := by simpa using b
  refine vR X K I a s hm J L (fun W' R' q r => D W' (R' ++ (A ++ (R1 ++ B))) ?_ ⟨R', A ++ (R1 ++ B), rfl, r, v u z R1 G⟩)
  refine q.perm ?_
  simp only [List.append_assoc]
  refine List.Perm.append_left _ (List.Perm.append_left _ (List.Perm.append_left _ ?_))
  rw [← List.append_assoc, ← List.append_assoc]
  exact List.Perm.append_right _ List.perm_append_comm
def DL (beq : κ → κ → Bool) (kenc : κ → Value) (Q : Value → γ → List (Nat × Obj) → Prop) (b : Value) (l : List (κ × γ)) (k : κ) (d : Nat) (R : List (Nat × Obj)) : Prop :=
  ∃ m es clock a A B i e, b = .map (some m) ∧ R = (m, .map es clock) :: (A ++ B) ∧ nY kenc (fun x => x) a es clock ∧ es[i]? = some e ∧ e.born = d ∧ a.findIdx? (fun p => beq k p.1) = some i ∧
    ∀ v x R1, Q v x R1 → pO Q (gH beq a k v) (gH beq l k x) (A ++ (R1 ++ B))
theorem De {r : Type} (q : ∀ x : κ, beq x x = true) (h : List (κ × r)) (k : κ) (a b : r) : gH beq (gH beq h k a) k b = gH beq h k b := by
  cases g : h.findIdx? (fun p => beq k p.1) with
  | none =>
    have m : (h ++ [(k, a)]).findIdx? (fun p => beq k p.1) = some h.length := by
      rw [List.findIdx?l, g]
      simp [List.findIdx?n, q]
    rw [oC g, oC g, kk m]
    simp
  | some i =>
    obtain ⟨p, hp, v⟩ := lG g
    have m : (h.set i (k, a)).findIdx? (fun p => beq k p.1) = some i := by
      rw [List.findIdx?d] at g ⊢
      obtain ⟨m, u, s⟩ := g
      refine ⟨by simpa using m, by simp [q], fun j t => ?_⟩
      rw [List.getElem_set_ne (by omega)]
      exact s j t
    rw [kk g, kk g, kk m]
    simp
end
end Go.Proofs.YtmlncblocfcmiaaGreat
namespace Go.Proofs.YtmlncblocfcmiaaGreat
open Go.RowKit
variable {dd : Bool}
section
variable {κ γ : Type} {Q : Value → γ → List (Nat × Obj) → Prop} {beq : κ → κ → Bool} {kenc : κ → Value}
variable {P : Program} {W : World} {kt : TypeId} {E : Nat → Value} {d : Option Nat} {ty : TypeId} {pos : String} {af : Array Edge} {g : Option (Nat × Bool)} {F : Nat → Prop} {w : World} {μ : bW} {L : List (Nat × Obj)}
theorem xY {es : Array MapEntry} {i : Nat} {f g : MapEntry → MapEntry} (h : ∀ e, es[i]? = some e → f e = g e) : es.modify i f = es.modify i g := by
  apply Array.ext_getElem?
  intro j
  rw [Array.getElem?a, Array.getElem?a]
  split
  · b d
    subst d
    cases he : es[i]? with
    | none => rfl
    | some e => simp [h e he]
  · rfl
theorem nY.val {d : List (κ × Value)} {es : Array MapEntry} {clock : Nat} (h : nY kenc (fun x => x) d es clock) {i : Nat} {e : MapEntry} (he : es[i]? = some e) : ∃ p, d[i]? = some p ∧ e.key = kenc p.1 ∧ e.val = p.2 := by
  have a := congrArg (fun q => q[i]?) h.zp
  simp only [List.getElem?g, Array.getElem?b, he, Option.map_some] at a
  cases hp : d[i]? with
  | none => rw [hp] at a; cases a
  | some p =>
    rw [hp] at a
    simp only [Option.map_some, Option.some.injEq, Prod.mk.injEq] at a
    exact ⟨p, rfl, a.1, a.2⟩
theorem GO {Kk : Value → World → Prop} (X : List (Nat × Obj)) {Y R : List (Nat × Obj)} {t e : TypeId} {m x : Operand} {mv z : Value} {x0 : γ} {lv : List (κ × Value)} {l : List (κ × γ)} {k : κ} (hk : ∀ {x y : κ}, beq x y = true ↔ x = y) (K : iZ P kt kenc beq) (ht : P.underlying t = some (.map kt e)) (hz : ∀ w, (zeroValue e).run P w = .ok z w) (aa : Q z x0 []) (a0 : ST dd F w W μ (X ++ (R ++ Y))) (h : fk kenc Q mv lv l R) (hm : aS E m = mv) (hx : aS E x = kenc k) (hK : ∀ W' v st R' R1, ST dd F w W' μ (X ++ (R' ++ (R1 ++ Y))) → Q v ((dE beq l k).getD x0) R1 → DL beq kenc Q mv l k st R' → Kk (.tuple #[v, .int .i64 (st : Nat)]) W') : fQ P E ⟨d, .mapEntry t m x, ty, pos, af, g⟩ W Kk := by
  obtain ⟨Rm, Rv, rfl, ⟨s, es, clock, rfl, rfl, G⟩, h3⟩ := h
  have hb : W.heap[s]? = some (.map es clock) := (a0.box s (.map es clock) (by simp)).1
  have h5 : ((getObj s : Sem Obj)).run P W = .ok (.map es clock) W := by simp [getObj, Sem.run, hb]
  have T := K.find k _ _ G.keys W
  rw [G.get k] at T
  have L := h3.find (beq := beq) k
  have J : ∀ W' v, (Instr.mapEntry t (.map (some s)) (kenc k)).run P W = .ok v W' → (execOp (aS E) ⟨d, .mapEntry t m x, ty, pos, af, g⟩).run P W = .ok (.value v) W' := by
    intro W' v hr
    show (do pure (.value (← Instr.mapEntry t (aS E m) (aS E x))) : Sem Next).run P W = _
    rw [hm, hx]
    simp [hr]
  have I : ST dd F w W μ (X ++ (s, .map es clock) :: (Rv ++ Y)) := by simpa using a0
  cases n : lv.findIdx? (fun p => beq k p.1) with
  | none =>
    rw [n] at T L
    have b := G.put (beq := beq) k z
    rw [n] at b
    refine .inl ⟨_, ChangeMaps.setBlock W s (.map (es.push { key := kenc k, val := z, born := clock }) (clock + 1)), J _ (.tuple #[z, .int .i64 (clock : Nat)]) ?_, hK _ z clock ((s, .map (es.push { key := kenc k, val := z, born := clock }) (clock + 1)) :: (Rv ++ [])) [] ?_ ?_ ?_⟩
    · simp [Instr.mapEntry, run_underlying ht, h5, K.check, T, rZ hb, hz _, goInt]
    · have := I.setBlock (.map (es.push { key := kenc k, val := z, born := clock }) (clock + 1))
      simpa using this
    · rw [yM L.symm]; exact aa
    · refine ⟨s, _, _, lv ++ [(k, z)], Rv, [], es.size, { key := kenc k, val := z, born := clock }, rfl, rfl, b, by simp, rfl, ?_, fun v x R1 hq => ?_⟩
      · rw [List.findIdx?U, n]
        have a7 := G.length
        simp [List.findIdx?a8, hk, a7]
      · rw [← oC n, De (fun x => hk.2 rfl), oC n, oC L.symm]
        simpa using h3.push k hq
  | some i =>
    rw [n] at T L
    obtain ⟨p, hp, a9⟩ := lG n
    obtain ⟨q, a6, a1⟩ := lG L.symm
    have ad := hk.1 a1
    obtain ⟨v, A, R1, B, g1, rfl, g3, g4⟩ := h3.get i q.1 q.2 a6
    have a5 : p.2 = v := by rw [g1] at hp; cases hp; rfl
    have a7 := G.length
    have ab : i < lv.length := (List.getElem?u.1 hp).1
    obtain ⟨en, r⟩ : ∃ en, es[i]? = some en := ⟨es[i], Array.getElem?D (by omega)⟩
    obtain ⟨p', a4, M, O⟩ := G.val r
    rw [hp] at a4
    cases a4
    simp only [Option.bind_some, hp, Option.map_some] at T
    have b := G.put (beq := beq) k v
    rw [n] at b
    have a2 : ((es[i]?).map (·.key)).getD (kenc k) = kenc k := by
      rw [r]
      simp only [Option.map_some, Option.getD_some, M]
      exact K.eq k p.1 a9
    have a3 : es.modify i (fun e => { e with key := kenc k }) = es.modify i (fun e => { e with key := kenc k, val := v }) := xY fun e he => by
      rw [r] at he; cases he
      rw [← a5, ← O]
    refine .inl ⟨_, ChangeMaps.setBlock W s (.map (es.modify i fun e => { e with key := kenc k, val := v }) clock), J _ (.tuple #[v, .int .i64 (en.born : Nat)]) ?_, hK _ v en.born ((s, .map (es.modify i fun e => { e with key := kenc k, val := v }) clock) :: (A ++ B)) R1 ?_ ?_ ?_⟩
    · simp only [Instr.mapEntry, Sem.run_bind, run_underlying ht, h5, K.check, T, Result.andThen_ok, a2, Instr.keyThatStays, K.bits, if_true, Sem.run_pure]
      rw [rZ hb, a3]
      simp [r, goInt, a5]
    · have := I.setBlock (.map (es.modify i fun e => { e with key := kenc k, val := v }) clock)
      refine this.perm ?_
      simp only [List.append_assoc, List.cons_append]
      refine List.Perm.append_left _ (List.Perm.cons _ (List.Perm.append_left _ ?_))
      rw [← List.append_assoc, ← List.append_assoc]
      exact List.Perm.append_right _ List.perm_append_comm
    · rw [wU L.symm a6]; exact g3
    · refine ⟨s, _, _, lv.set i (k, v), A, B, i, { en with key := kenc k, val := v }, rfl, rfl, b, ?_, rfl, ?_, fun v2 x2 R2 hq => ?_⟩
      · rw [Array.getElem?Z, if_pos rfl, r]; rfl
      · rw [List.findIdx?a] at n ⊢
        obtain ⟨h1, G, h3⟩ := n
        refine ⟨by simpa using h1, by simp [hk], fun j hj => ?_⟩
        rw [List.getElem_set_ne (by omega)]
        exact h3 j hj
      · rw [← kk n, De (fun x => hk.2 rfl), kk n, kk L.symm]
        exact g4 k v2 x2 R2 hq
theorem Hq {es : Array MapEntry} (h : es.toList.Pairwise (fun a b => a.born < b.born)) {i : Nat} {e : MapEntry} (he : es[i]? = some e) : es.findIdx? (fun a => (a.born : Int) == (e.born : Int)) = some i := by
  rw [Array.findIdx?d]
  obtain ⟨l, k⟩ := Array.getElem?g.1 he
  refine ⟨l, by rw [k]; simp, fun j m => ?_⟩
  have := List.pairwise_iff_getElem.1 h j i (by simpa using Nat.lt_trans m l) (by simpa using l) m
  simp only [Array.getElem_toList] at this
  rw [k] at this
  simp
  omega
theorem EJ {Kk : Value → World → Prop} (X : List (Nat × Obj)) {Y R R1 : List (Nat × Obj)} {t e : TypeId} {m s y : Operand} {Z u : Value} {z : γ} {l : List (κ × γ)} {k : κ} {st : Nat} (hk : ∀ {x y : κ}, beq x y = true ↔ x = y) (K : iZ P kt kenc beq) (r : ST dd F w W μ (X ++ (R ++ (R1 ++ Y)))) (h : DL beq kenc Q Z l k st R) (hm : aS E m = Z) (hs : aS E s = .int .i64 (st : Nat)) (hy : aS E y = u) (hq : Q u z R1) (hK : ∀ W' U R', ST dd F w W' μ (X ++ (R' ++ Y)) → fk kenc Q Z U (gH beq l k z) R' → Kk undef W') : fQ P E ⟨d, .entryStore t m s y, ty, pos, af, g⟩ W Kk := by
  obtain ⟨b, es, clock, lv, A, B, i, en, rfl, rfl, L, n, j, O, h3⟩ := h
  have hb : W.heap[b]? = some (.map es clock) := (r.box b (.map es clock) (by simp)).1
  have h5 : ((getObj b : Sem Obj)).run P W = .ok (.map es clock) W := by simp [getObj, Sem.run, hb]
  obtain ⟨p, hp, M⟩ := lG O
  obtain ⟨p', J, q, T⟩ := L.val n
  rw [hp] at J
  cases J
  have a := L.put (beq := beq) k u
  rw [O] at a
  have I : es.modify i (fun e => { e with val := u }) = es.modify i (fun e => { e with key := kenc k, val := u }) := xY fun e he => by
    rw [n] at he; cases he
    have D : en.key = kenc k := by rw [q]; exact K.eq k p.1 M
    rw [← D]
  have G := Hq L.born n
  rw [j] at G
  have v : ST dd F w W μ (X ++ (b, .map es clock) :: (A ++ (B ++ (R1 ++ Y)))) := by simpa using r
  refine .inr (.inl ⟨ChangeMaps.setBlock W b (.map (es.modify i fun e => { e with key := kenc k, val := u }) clock), ?_, hK _ (gH beq lv k u) ((b, .map (es.modify i fun e => { e with key := kenc k, val := u }) clock) :: (A ++ (R1 ++ B))) ?_ ⟨[(b, .map (es.modify i fun e => { e with key := kenc k, val := u }) clock)], A ++ (R1 ++ B), rfl, ⟨b, _, _, rfl, rfl, ?_⟩, h3 u z R1 hq⟩⟩)
  · show (do Instr.entryStore t (aS E m) (aS E s) (aS E y); pure .skip : Sem Next).run P W = _
    rw [hm, hs, hy]
    simp only [Instr.entryStore, Sem.run_bind, h5, Result.andThen_ok, asInt, asIntOf, Sem.run_pure, G]
    rw [rZ hb, I]
    rfl
  · have := v.setBlock (.map (es.modify i fun e => { e with key := kenc k, val := u }) clock)
    refine this.perm ?_
    simp only [List.append_assoc, List.cons_append]
    refine List.Perm.append_left _ (List.Perm.cons _ (List.Perm.append_left _ ?_))
    rw [← List.append_assoc, ← List.append_assoc]
    exact List.Perm.append_right _ List.perm_append_comm
  · rw [kk O]; exact a
end
end Go.Proofs.YtmlncblocfcmiaaGreat
namespace Go.Proofs.YtmlncblocfcmiaaGreat
open Go.RowKit
variable {dd : Bool}
section
variable {κ γ : Type} {Q : Value → γ → List (Nat × Obj) → Prop} {beq : κ → κ → Bool} {kenc : κ → Value}
def et (kenc : κ → Value) (Q : Value → γ → List (Nat × Obj) → Prop) (v : Value) (l : List (κ × γ)) (R : List (Nat × Obj)) : Prop := ∃ a, fk kenc Q v a l R
def np (kenc : κ → Value) (Q : Value → γ → List (Nat × Obj) → Prop) (μ : bW) (v : Value) (l : List (κ × γ)) : Prop := ∃ a R, fk kenc Q v a l R ∧ ∀ b o, (b, o) ∈ R → μ b = some o
theorem et.at {v : Value} {l : List (κ × γ)} {R : List (Nat × Obj)} {μ : bW} (h : et kenc Q v l R) (a : ∀ b o, (b, o) ∈ R → μ b = some o) : np kenc Q μ v l := let ⟨d, h⟩ := h; ⟨d, R, h, a⟩
theorem np.mono {v : Value} {l : List (κ × γ)} {μ μ' : bW} (h : np kenc Q μ v l) (g : bO μ μ') : np kenc Q μ' v l := let ⟨i, R, h, a⟩ := h; ⟨i, R, h, fun b o d => g _ _ (a b o d)⟩
theorem fk.form {v : Value} {a : List (κ × Value)} {l : List (κ × γ)} {R : List (Nat × Obj)} (h : fk kenc Q v a l R) : ∃ m, v = .map (some m) := let ⟨_, _, _, h, _⟩ := h; h.form
theorem fk.e {v : Value} {a : List (κ × Value)} {l : List (κ × γ)} {R : List (Nat × Obj)} (h : fk kenc Q v a l R) : et kenc Q v l R := ⟨a, h⟩
theorem et.form {v : Value} {l : List (κ × γ)} {R : List (Nat × Obj)} (h : et kenc Q v l R) : ∃ m, v = .map (some m) := let ⟨_, h⟩ := h; h.form
theorem et.new {v : Value} {R : List (Nat × Obj)} (h : ej (β := Value) kenc (fun x => x) v [] R) : et kenc Q v [] R := ⟨[], R, [], (List.append_nil R).symm, h, rfl⟩
theorem fk.rowAt {α : Type} {e : TypeId} {enc : α → List Value} {n : Nat} {p : Value} {d : List (κ × Value)} {l : List (κ × List α)} {R : List (Nat × Obj)} (m : ∀ {x y : κ}, beq x y = true → x = y) (h : fk kenc (bG e enc n) p d l R) (k : κ) :
    ∃ R1, bG e enc n (kL beq d k (.slice none 0 0)) ((dE beq l k).getD []) R1 ∧ ∀ b o, (b, o) ∈ R1 → (b, o) ∈ R := by
  cases a : dE beq l k with
  | none => refine ⟨[], ?_, fun b o h => by cases h⟩; rw [kL, h.GR a]; exact .inl ⟨rfl, rfl, rfl⟩
  | some x =>
    obtain ⟨v, A, R1, B, g, rfl, i, _⟩ := h.found m a
    refine ⟨R1, ?_, fun b o j => by simp [j]⟩
    rw [kL, g]; exact i
theorem bG.yH {α : Type} {e : TypeId} {enc : α → List Value} {k : Nat} {v : Value} {l : List α} {R : List (Nat × Obj)} (h : bG e enc k v l R) (d : ∀ x, (enc x).length = k) : Sl (Pl enc) k (uj R) v l := by
  refine h.sl d (fun b o a => ?_)
  rcases h with ⟨rfl, rfl, rfl⟩ | ⟨g, cap, cur, rfl, rfl, _⟩
  · cases a
  · simp at a; obtain ⟨rfl, rfl⟩ := a; simp [uj]
end
theorem gd.hp (W : World) : gd (hp W) [] W := ⟨fun _ _ h => h, fun _ _ h => by cases h⟩
section
variable {P : Program} {W : World} {E : Nat → Value} {d : Option Nat} {ty : TypeId} {pos : String} {af : Array Edge} {g : Option (Nat × Bool)} {F : Nat → Prop} {w : World} {μ : bW} {L : List (Nat × Obj)}
theorem A4 {t k e : TypeId} (dd : Nat) (b : P.underlying t = some (.map k e)) (a : Option Nat) (W : World) : (Op.equalIn (dd + 1) t (.map a) (.map none)).run P W = .ok a.isNone W := by
  cases a <;> simp [Op.equalIn, run_underlying b]
theorem Gi {a n k e : TypeId} {x y : Operand} {r : Option Nat} {b : Bool} (j : P.underlying a = some (.map k e)) (l : aS E x = .map r) (m : aS E y = .map none) (i : r.isNone = b) :
    er P E ⟨d, .binOp .eql a x y n, ty, pos, af, g⟩ W (.bool b) W := by
  subst i
  show (do let r ← (do eqGuard .eql a x y (aS E x) (aS E y); binOp .eql a (aS E x) (aS E y)); pure (.value r) : Sem Next).run P W = _
  rw [l, m]
  have h := A4 9999 j r W
  simp [eqGuard, binOp, Op.equal, show Op.maxDepth = 9999 + 1 from rfl, h]
theorem E5 {κ κ2 β : Type} {kenc : κ → Value} {kenc2 : κ2 → Value} {vf : β → Value} {beq : κ → κ → Bool} {b t kt e : TypeId} {x y : Operand} {s : Value} {a : List (κ × Value)} {l : List (κ × List (κ2 × β))} {R : List (Nat × Obj)} {k : κ} (m : ∀ {x y : κ}, beq x y = true → x = y) (n : P.underlying b = some (.map kt e)) (h : fk kenc (ej kenc2 vf) s a l R) (p : aS E x = kL beq a k (.map none)) (q : aS E y = .map none) :
    er P E ⟨d, .binOp .eql b x y t, ty, pos, af, g⟩ W (.bool (dE beq l k).isNone) W := by
  obtain ⟨r, i, j⟩ := h.isNil m k
  exact Gi n (p.trans i) q j
theorem xb {κ γ : Type} {b : Value → World → Prop} {t : TypeId} (kenc : κ → Value) (Q : Value → γ → List (Nat × Obj) → Prop) (a : ST dd F w W μ L) (j : ∀ W' v R, ST dd F w W' μ (R ++ L) → et kenc Q v [] R → b v W') : fQ P E ⟨d, .makeMap t none, ty, pos, af, g⟩ W b :=
  CD kenc (fun x : Value => x) a (fun W' v R h i => j W' v R h (et.new i))
end
def jS {α : Type} (e : TypeId) (enc : α → List Value) (k : Nat) (v : Value) (l : List α) (R : List (Nat × Obj)) : Prop :=
  (v = .slice none 0 0 ∧ l = [] ∧ R = []) ∨
  ∃ g off cap cur, v = .slice (some ⟨g, off, none⟩) l.length cap ∧ R = [(g, .cells cur e (0, 0))] ∧ l.length ≤ cap ∧ cap ≤ maxLen ∧ off + cap * k ≤ cur.size ∧ (cur.toList.drop off).take (l.length * k) = (l.map enc).flatten
section
variable {α : Type} {e : TypeId} {enc : α → List Value} {k : Nat} {v : Value} {l : List α} {R : List (Nat × Obj)}
theorem jS.nil (e : TypeId) (enc : α → List Value) (k : Nat) : jS e enc k (.slice none 0 0) [] [] := .inl ⟨rfl, rfl, rfl⟩
theorem bG.MC (h : bG e enc k v l R) : jS e enc k v l R := by
  rcases h with h | ⟨g, cap, cur, a, b, d, i, m, j⟩
  · exact .inl h
  · exact .inr ⟨g, 0, cap, cur, a, b, d, i, by omega, by simpa using j⟩
theorem jS.len (h : jS e enc k v l R) : l.length ≤ 9223372036854775807 := by
  rcases h with ⟨rfl, rfl, rfl⟩ | ⟨g, off, cap, cur, rfl, rfl, b, a, _⟩
  · simp
  · unfold maxLen at a; omega
theorem jS.form (h : jS e enc k v l R) : ∃ A c, v = .slice A l.length c := by
  rcases h with ⟨rfl, rfl, rfl⟩ | ⟨g, off, cap, cur, rfl, rfl, _⟩
  · exact ⟨_, _, rfl⟩
  · exact ⟨_, _, rfl⟩
theorem jS.yH (h : jS e enc k v l R) (n : ∀ x, (enc x).length = k) : Sl (Pl enc) k (uj R) v l := by
  rcases h with ⟨rfl, rfl, rfl⟩ | ⟨g, off, cap, cur, rfl, rfl, p, q, u, r⟩
  · exact Sl.nil _ _ _
  · refine ⟨_, cap, rfl, p, q, fun _ => ⟨g, off, cur, e, (0, 0), rfl, by simp [uj], fun i x s => ⟨enc x, n x, rfl, fun j y t => ?_⟩⟩⟩
    have := pS n l i x s j y t
    rw [← r] at this
    have m : i * k + j < l.length * k := by
      have := (List.getElem?a.1 this).1
      simp at this; omega
    rw [List.getElem?b m, List.getElem?d] at this
    simpa [Nat.add_assoc] using this
variable {P : Program} {W : World} {E : Nat → Value} {d : Option Nat} {ty : TypeId} {pos : String} {af : Array Edge} {g : Option (Nat × Bool)} {F : Nat → Prop} {w : World} {μ : bW} {L : List (Nat × Obj)}
theorem IA {x : Operand} {t a : TypeId} (b : P.underlying t = some (.slice a)) (i : aS E x = v) (h : jS e enc k v l R) : er P E ⟨d, .call ⟨.builtin .len, #[x], #[t]⟩, ty, pos, af, g⟩ W (.int .i64 l.length) W := by
  obtain ⟨A, c, rfl⟩ := h.form
  exact uD b i
theorem Gx {t p : TypeId} {x m : Operand} {L : IntKind} {i : Int} (y : P.underlying t = some (.slice p)) (he : ∀ w, (sizeOf p).run P w = .ok k w) (z : aS E x = v) (r : aS E m = .int L i) (J : ∀ x, (enc x).length = k) (h : jS e enc k v l R) (A : 0 ≤ i) (s : i ≤ l.length) :
    ∃ u, jS e enc k u (l.drop i.toNat) R ∧ ∀ W, er P E ⟨d, .slice t x (some m) none none, ty, pos, af, g⟩ W u W := by
  rcases h with ⟨rfl, rfl, rfl⟩ | ⟨j, off, cap, cur, rfl, rfl, M, O, Q, D⟩
  · have : i = 0 := by simp at s; omega
    subst this
    refine ⟨.slice none 0 0, by simpa using jS.nil e enc k, fun W => ?_⟩
    show (do pure (.value (← Instr.sliceAt t (aS E x) (some (aS E m)) none none)) : Sem Next).run P W = _
    rw [z, r]
    simp [Instr.sliceAt, Instr.slice, Instr.sliceBounds, Instr.sliceBound, asIntOf, run_underlying y, he W]
  · refine ⟨.slice (some (if cap = i.toNat then ⟨j, off, none⟩ else (Addr.add ⟨j, off, none⟩ (i.toNat * k)))) (l.length - i.toNat) (cap - i.toNat), .inr ?_, fun W => ?_⟩
    · have a : (l.drop i.toNat).length = l.length - i.toNat := by simp
      have b : (l.map enc).flatten.drop (i.toNat * k) = ((l.drop i.toNat).map enc).flatten := by
        have F : l = l.take i.toNat ++ l.drop i.toNat := (List.take_append_drop _ _).symm
        have G : ((l.take i.toNat).map enc).flatten.length = i.toNat * k := by rw [jo J, List.length_take, Nat.min_eq_left (by omega)]
        conv => lhs; rw [F, List.map_append, List.flatten_append]
        rw [← G, List.drop_left]
      by_cases q : cap = i.toNat
      · rw [if_pos q]
        have n : l.drop i.toNat = [] := List.drop_eq_nil_of_le (by omega)
        refine ⟨j, off, cap - i.toNat, cur, by rw [n]; simp; omega, rfl, by rw [n]; simp, by omega, by have : (cap - i.toNat) * k ≤ cap * k := Nat.mul_le_mul_right _ (by omega); omega, by rw [n]; simp⟩
      · rw [if_neg q]
        refine ⟨j, off + i.toNat * k, cap - i.toNat, cur, by rw [a, Addr.add_lit], rfl, by rw [a]; omega, by omega, ?_, ?_⟩
        · have : i.toNat * k + (cap - i.toNat) * k = cap * k := by rw [← Nat.add_mul]; congr 1; omega
          omega
        · rw [a, ← b, ← D, List.drop_take, List.drop_drop, Nat.sub_mul]
    · show (do pure (.value (← Instr.sliceAt t (aS E x) (some (aS E m)) none none)) : Sem Next).run P W = _
      rw [z, r]
      have I : 0 ≤ i ∧ i ≤ (l.length : Int) := ⟨A, s⟩
      simp [Instr.sliceAt, Instr.slice, Instr.sliceBounds, Instr.sliceBound, asIntOf, run_underlying y, he W, I]
      split <;> rfl
theorem Fg {K : Value → World → Prop} {t : TypeId} {a2 : Nat} {z vs : Value} {m r : List α} (X : List (Nat × Obj)) {Y : List (Nat × Obj)} {x y : Operand} {i : TypeInfo} (a3 : ST dd F w W μ (X ++ (R ++ Y))) (hk : ∀ x, (enc x).length = k) (ag : 0 < k) (h1 : ∀ x, ∀ u ∈ enc x, u.oneCell' = true) (ht : P.underlying t = some (.slice e)) (hi : P.info? e = some i) (hz : i.zero = some z) (a6 : z.cells.size = k) (a0 : i.size = k) (a4 : i.bytes = a2) (hx : aS E x = v) (hy : aS E y = vs) (hR : jS e enc k v l R) (hs : Sl (Pl enc) k (hp W) vs m) (hb : eS a2 l m = some r) (h : ∀ W' v' R', ST dd F w W' μ (X ++ (R' ++ Y)) → jS e enc k v' r R' → K v' W') : fQ P E ⟨d, .call ⟨.builtin .append, #[x, y], #[t, t]⟩, ty, pos, af, g⟩ W K := by
  rcases hR with ⟨rfl, rfl, rfl⟩ | ⟨p, off, cap, cur, rfl, rfl, h2, h3, h4, h5⟩
  · exact Ef X a3 hk ag h1 ht hi hz a6 a0 a4 hx hy (bG.nil e enc k) hs hb (fun W' v' R' a b => h W' v' R' a b.MC)
  unfold eS at hb
  split at hb
  case isFalse => cases hb
  a1 Z
  cases hb
  have U : ∀ (V : Value) (W' : World), (Builtin.append_ #[t, t] ty #[.slice (some ⟨p, off, none⟩) l.length cap, vs]).run P W = .ok V W' → (execOp (aS E) ⟨d, .call ⟨.builtin .append, #[x, y], #[t, t]⟩, ty, pos, af, g⟩).run P W = .ok (.value V) W' := by
    intro V W' hV
    show (do let d ← resolve (aS E) ⟨.builtin .append, #[x, y], #[t, t]⟩ ty; invoke d.target d.args : Sem Next).run P W = _
    simp [resolve, invoke, builtin, hx, hy, hV]
  obtain ⟨A, c, rfl, aj, ak, aa⟩ := hs
  have I : ST dd F w W μ (X ++ (p, .cells cur e (0, 0)) :: Y) := by simpa using a3
  have hg : W.heap[p]? = some (.cells cur e (0, 0)) := (I.box p _ (by simp)).1
  have G := jo hk l
  have M : ∀ u ∈ (m.map enc).flatten, u.oneCell' = true := by
    intro u hu
    obtain ⟨ys, ai, ah⟩ := List.mem_flatten.1 hu
    obtain ⟨x, _, rfl⟩ := List.mem_map.1 ai
    exact h1 x u ah
  have D : Src P i.size t (.slice A m.length c) m.length ((m.map enc).flatten) W := by
    rw [a0]
    rcases Nat.eq_zero_or_pos m.length with h0 | h0
    · have hm : m = [] := List.eq_nil_of_length_eq_zero h0
      subst hm
      cases A with
      | none => exact Src.ofNil W ht c
      | some ad => exact Src.ofSlice W ht ad 0 c [] (by simp) (fun j u hu => by simp at hu) (fun u hu => by cases hu)
    · obtain ⟨b, o, cs, T, fr, rfl, h6, h7⟩ := aa h0
      refine Src.ofSlice W ht _ _ c _ (jo hk m) (fun j u hu => ?_) M
      obtain ⟨i, x, q, h8, h9, rfl⟩ := AL hk m j u hu
      obtain ⟨ys, _, a8, a9⟩ := h7 i x h8
      cases a8
      rw [Addr.add_lit, cell_of_row W b (o + (i * k + q)) cs T fr h6, ← Nat.add_assoc]
      exact a9 q u h9
  have n := jo hk m
  have L : ((l ++ m).map enc).flatten = (l.map enc).flatten ++ (m.map enc).flatten := by simp
  generalize (m.map enc).flatten = fm at D M n L
  subst a0
  have al : l.length * i.size ≤ cap * i.size := Nat.mul_le_mul_right _ h2
  by_cases s : l.length + m.length ≤ cap
  · have an : l.length * i.size + m.length * i.size ≤ cap * i.size := by rw [← Nat.add_mul]; exact Nat.mul_le_mul_right _ s
    have a5 := run_storeCells_at (P := P) p (off + l.length * i.size) e fm 0 cur W hg (by rw [n]; omega) M
    have J : (Builtin.append_ #[t, t] ty #[.slice (some ⟨p, off, none⟩) l.length cap, .slice A m.length c]).run P W = .ok (.slice (some ⟨p, off, none⟩) (l.length + m.length) cap) (W.setRow p (cur.toList.take (off + l.length * i.size) ++ fm ++ cur.toList.drop (off + l.length * i.size + fm.length)).toArray) := by
      simp [Builtin.append_, run_underlying ht, sizeOf, typeInfo, hi, D.len, s, D.cells, Addr.add_lit]
      simp only [Nat.add_zero] at a5
      rw [a5]
      simp
    refine .inl ⟨_, _, U _ _ J, h _ _ [(p, _)] (by simpa using I.store _) (.inr ⟨p, off, cap, _, by rw [List.length_append], rfl, by simpa using s, h3, ?_, ?_⟩)⟩
    · simp only [List.size_toArray, List.length_append, List.length_take, List.length_drop, Array.length_toList, n]
      rw [Nat.min_eq_left (by omega)]
      omega
    · have hA : (cur.toList.take (off + l.length * i.size)).length = off + l.length * i.size := by simp; omega
      show ((cur.toList.take (off + l.length * i.size) ++ (fm ++ cur.toList.drop (off + l.length * i.size + fm.length))).drop off).take ((l ++ m).length * i.size) = _
      rw [L, List.drop_append, List.drop_take, hA, show off - (off + l.length * i.size) = 0 by omega, List.drop_zero, show off + l.length * i.size - off = l.length * i.size by omega, h5]
      rw [List.length_append, Nat.add_mul, List.take_append, List.take_append, G, n, List.take_of_length_le (by rw [G]; omega), show l.length * i.size + m.length * i.size - l.length * i.size = m.length * i.size by omega, List.take_of_length_le (by rw [n]; omega)]
      simp
  · have hold : (Builtin.firstCells i.size l.length (.slice (some ⟨p, off, none⟩) l.length cap)).run P W.drew = .ok ((l.map enc).flatten).toArray W.drew := by
      refine run_firstCells_some W.drew i.size l.length ⟨p, off, none⟩ l.length cap _ G (fun j u hu => ?_)
      rw [Addr.add_lit]
      show W.cell? ⟨p, off + j, none⟩ = some u
      rw [cell_of_row W p (off + j) cur e (0, 0) hg]
      rw [← h5] at hu
      have hj : j < l.length * i.size := by have := (List.getElem?O.1 hu).1; simp at this; omega
      rw [List.getElem?Q hj, List.getElem?a7] at hu
      simpa using hu
    have hlen : (l ++ m).length = l.length + m.length := List.length_append
    have ae := grownCap_ge W (l.length + m.length) cap e
    have ab := grownCap_le_maxLen W (l.length + m.length) cap e Z.2
    have J := run_append_grow_src (P := P) W t t ty e i z ht hi hz (some ⟨p, off, none⟩) l.length cap ((l.map enc).flatten) hold _ m.length _ D (by omega) (by have := Z.2; unfold maxLen at this; omega) (growslice_fits (by omega) (by rw [a4]; exact Z.1))
    have h6 := I.drew.alloc (.cells (((l.map enc).flatten ++ fm).toArray ++ Builtin.zeroCells z.cells (grownCap W (l.length + m.length) cap e - (l.length + m.length))) e (0, 0))
    have h7 := (ST.drop (A := (W.drew.heap.size, _) :: X) h6).perm (L' := X ++ ([(W.heap.size, _)] ++ Y)) (by simpa using (List.perm_middle (a := (W.heap.size, _)) (l₁ := X) (l₂ := Y)).symm)
    refine .inl ⟨_, _, U _ _ J, h _ _ _ h7 (bG.MC (.inr ⟨W.heap.size, grownCap W (l.length + m.length) cap e, _, by rw [hlen], rfl, by rw [hlen]; exact ae, ab, ?_, ?_⟩))⟩
    · rw [Array.size_append, size_zeroCells, a6]
      simp only [List.size_toArray, List.length_append, G, n]
      rw [← Nat.add_mul, ← Nat.add_mul]
      congr 1
      omega
    · rw [Array.toList_append, List.toList_toArray, hlen, L, List.take_append_of_le_length (by simp only [List.length_append, G, n]; rw [Nat.add_mul]; exact Nat.le_refl _), List.take_of_length_le (by simp only [List.length_append, G, n]; rw [Nat.add_mul]; exact Nat.le_refl _)]
end
end Go.Proofs.YtmlncblocfcmiaaGreat
namespace Go.Proofs.YtmlncblocfcmiaaGreat
open Go.RowKit
section
variable {P : Program} {ops : Array Oper} {Q : Exit → Act → World → Prop} {S : Array Bool → World → Prop}
def qR (ops : Array Oper) (l : Array Bool) : Prop := ∀ j o, ops[j]? = some o → l.getD j true = true → ∀ e ∈ o.after, Region.binds .any e = true → l.getD e.on true = true
def Bz (ops : Array Oper) : Nat → List Nat → Bool
  | _, [] => true
  | j, k :: r => (match ops[j]? with | some o => o.after.any (fun e => Region.binds .any e && e.on == k) | none => false) && Bz ops k r
theorem BL {l : Array Bool} (m : qR ops l) : ∀ (r : List Nat) (j i : Nat), Bz ops j r = true → (j :: r).getLast? = some i → l.getD j true = true → l.getD i true = true
  | [], j, i, _, h, d => by simp at h; subst h; exact d
  | k :: r, j, i, h, q, d => by
    simp only [Bz, Bool.and_eq_true] at h
    obtain ⟨a, p⟩ := h
    cases g : ops[j]? with
    | none => rw [g] at a; cases a
    | some o =>
      rw [g] at a
      simp only [Array.any_eq_true] at a
      obtain ⟨n, s, a⟩ := a
      simp only [Bool.and_eq_true, beq_iff_eq] at a
      have := m j o g d o.after[n] (Array.getElem_mem s) a.1
      rw [a.2] at this
      exact BL m r k i p (by simpa [List.getLast?b] using q) this
def AO (ops : Array Oper) (i : Nat) (l : Array Bool) : Prop := qR ops l ∧ l.getD i true = false
theorem AO.xH {l : Array Bool} {i : Nat} (h : AO ops i l) (j : Nat) (r : List Nat) (a : Bz ops j r = true) (d : (j :: r).getLast? = some i) : l.getD j true = false := by
  cases b : l.getD j true with
  | false => rfl
  | true => have := BL h.1 r j i a d b; rw [h.2] at this; cases this
theorem qR.start (n : Nat) (h : n = ops.size) : qR ops (Array.replicate n false) := by
  subst h
  intro j o g d
  have b : j < ops.size := (Array.getElem?a.1 g).1
  simp [b] at d
theorem qR.set {l : Array Bool} {i : Nat} (h : qR ops l) (s : i ∈ Region.ready .any ops l) : qR ops (l.setIfInBounds i true) := by
  intro j o q p e he n
  have up : ∀ {k : Nat}, l.getD k true = true → (l.setIfInBounds i true).getD k true = true := fun {k} r => by
    by_cases d : i = k
    · subst d
      by_cases m : i < l.size
      · simp [m]
      · simp [m]
    · rw [getD_set_ne true d]; exact r
  by_cases b : i = j
  · subst b
    obtain ⟨_, t, g, a⟩ := mem_ready.1 s
    rw [q] at g
    cases g
    refine up ?_
    have := a e he n
    by_cases m : e.on < l.size
    · simp [m] at this ⊢; exact this
    · simp [m]
  · rw [getD_set_ne true b] at p
    exact up (h j o q p e he n)
def wy (P : Program) (ops : Array Oper) (S : Array Bool → World → Prop) (i : Nat) (o : Oper) (v : Value) (a : Act) : Prop :=
  (Region.wanted o (yielded ops a.tmps) = true ∧ ∀ l w, AO ops i l → S l w → (execOp a.eval o).run P w = .ok (.value v) w) ∨
  (Region.wanted o (yielded ops a.tmps) = false ∧ v = undef)
theorem wy.Mu {i : Nat} {o : Oper} {v : Value} {a : Act} {l : Array Bool} (h : wy P ops S i o v a) (hp : AO ops i l) : YieldsIf P ops (S l) o v a :=
  h.imp (fun ⟨b, d⟩ => ⟨b, fun w hw => d l w hp hw⟩) id
def F3 (P : Program) (ops : Array Oper) (Q : Exit → Act → World → Prop) (S : Array Bool → World → Prop) : Nat → Array Bool → Act → World → Prop
  | 0, l, a, w => Region.ready .any ops l = [] ∧ Q .normal a w
  | n + 1, l, a, w => (Region.ready .any ops l = [] → Q .normal a w) ∧
    ∀ i ∈ Region.ready .any ops l, wpOp P ops Q i (fun d b => S (l.setIfInBounds i true) b ∧ F3 P ops Q S n (l.setIfInBounds i true) d b) a w
theorem FB : ∀ (n : Nat) (l : Array Bool) (a : Act) (w : World), F3 P ops Q S n l a w → wpAny P .any ops Q n l a w
  | 0, _, _, _, h => h
  | n + 1, _, _, _, h => ⟨h.1, fun i g => wpOp_mono (fun b j d => FB n _ b j d.2) (h.2 i g)⟩
theorem G1 {i j : Nat} {d r : Oper} {v : Value} (x : ops[j]? = some r) (n : d.apart ops r = true) (p : ∀ cs b, d.op ≠ .select cs b) (q : ∀ cs b, r.op ≠ .select cs b) (u : ∀ c a w, Q (.panic c) (a.put d.dst v) w → Q (.panic c) a w) {K : Act → World → Prop} {a : Act} {w : World} (y : wy P ops S i d v a) (h : wpOp P ops Q j K (a.put d.dst v) w) :
    wpOp P ops Q j (fun k t => wy P ops S i d v k ∧ K (k.put d.dst v) t) a w := by
  have g : YieldsIf P ops (fun w => ∃ l, AO ops i l ∧ S l w) d v a := y.imp (fun ⟨g, m⟩ => ⟨g, fun w ⟨l, hp, hw⟩ => m l w hp hw⟩) id
  refine wpOp_mono (fun k t s => ⟨s.1.imp (fun ⟨g, m⟩ => ⟨g, fun l w hp hw => m w ⟨l, hp, hw⟩⟩) id, s.2⟩) (wpOp_putIf (S := fun w => ∃ l, AO ops i l ∧ S l w) x n p q u g h)
theorem CH {i : Nat} {x : Oper} {v : Value} (T : ops[i]? = some x) (s : ∀ (j : Nat) (o : Oper) cs b, ops[j]? = some o → o.op ≠ .select cs b) (hQ : ∀ c a w, Q (.panic c) (a.put x.dst v) w → Q (.panic c) a w) (hm : ∀ l w, S (l.setIfInBounds i true) w → S l w) :
    ∀ (n : Nat) (l : Array Bool) (a : Act) (w : World), (∀ j y, ops[j]? = some y → j ≠ i → l.getD j true = false → (∀ e ∈ y.after, Region.binds .any e = true → e.on ≠ i) → x.apart ops y = true) →
      qR ops l → i ∈ Region.ready .any ops l → wy P ops S i x v a → S (l.setIfInBounds i true) w → F3 P ops Q S n (l.setIfInBounds i true) (a.put x.dst v) w → F3 P ops Q S (n + 1) l a w := by
  intro n
  induction n with
  | zero =>
    intro l a w _ J q L A H
    refine ⟨fun h => (by rw [h] at q; cases q), fun j E => ?_⟩
    by_cases d : j = i
    · subst d
      exact (L.Mu ⟨J, (mem_ready.1 q).1⟩).wpOp T (hm l w A) ⟨A, H⟩
    · have := ready_mono E d
      rw [H.1] at this
      cases this
  | succ n ih =>
    intro l a w m J q L A H
    refine ⟨fun h => (by rw [h] at q; cases q), fun j E => ?_⟩
    by_cases d : j = i
    · subst d
      exact (L.Mu ⟨J, (mem_ready.1 q).1⟩).wpOp T (hm l w A) ⟨A, H⟩
    have h1 := H.2 j (ready_mono E d)
    obtain ⟨r, y, u, D⟩ := mem_ready.1 E
    have G : ∀ e ∈ y.after, Region.binds .any e = true → e.on ≠ i := fun e he hb R => by
      have t := D e he hb
      have Z := (mem_ready.1 q).1
      rw [R] at t
      rcases Nat.lt_or_ge i l.size with M | M
      · simp [M] at Z t; rw [Z] at t; cases t
      · simp [Array.getElem?z M] at t
    have t := G1 u (m j y u d r G) (fun cs b => s i x cs b T) (fun cs b => s j y cs b u) hQ L h1
    have p : ∀ k ok, ops[k]? = some ok → k ≠ i → (l.setIfInBounds j true).getD k true = false → (∀ e ∈ ok.after, Region.binds .any e = true → e.on ≠ i) → x.apart ops ok = true := fun k ok hk U I W => by
      refine m k ok hk U ?_ W
      by_cases F : j = k
      · subst F; exact r
      · rw [getD_set_ne true F] at I; exact I
    have g : (l.setIfInBounds i true).setIfInBounds j true = (l.setIfInBounds j true).setIfInBounds i true := Array.setIfInBounds_comm _ _ (Ne.symm d)
    refine wpOp_mono (fun a' Y O => ?_) t
    have h4 : S ((l.setIfInBounds j true).setIfInBounds i true) Y := by rw [← g]; exact O.2.1
    refine ⟨hm _ Y h4, ih (l.setIfInBounds j true) a' Y p (J.set E) (ready_mono q (Ne.symm d)) O.1 h4 ?_⟩
    rw [← g]
    exact O.2.2
end
def PX (P : Program) (n : Nat) (ops : Array Oper) (Q : kj) (S : Array Bool → World → Prop) (fuel : Nat) (listed : Array Bool) (E : Nat → Value) (W : World) : Prop :=
  qR ops listed → ∀ a, Ag n a E → F3 P ops (lift n Q) S fuel listed a W
section
variable {P : Program} {n : Nat} {Q : kj} {E : Nat → Value} {W : World} {ops : Array Oper} {S : Array Bool → World → Prop} {fuel : Nat} {listed : Array Bool}
theorem EK {id : Nat} {l : List Oper} (S : Array Bool → World → Prop) (hm : P.follows .mixedOrders = true) (h : PX P n l.toArray Q S l.length (Array.replicate l.length false) E W.drew) : CW P n (.region id l.toArray true) Q E W := fun a ha =>
  wp_region_any hm (FB _ _ _ _ (h (qR.start _ (by simp)) a ha))
def vt (ops : Array Oper) (listed : Array Bool) (i : Nat) : Bool := Region.noSelect ops && Region.free .any ops listed i && (Region.ready .any ops listed).contains i
theorem cX {o : Oper} {dd : Nat} {v : Value} (i : Nat) (j : ops[i]? = some o) (b : vt ops listed i = true) (hw : mC n ops E o) (p : o.dst = some dd) (q : dd < n) (hm : ∀ l w, S (l.setIfInBounds i true) w → S l w) (m : S (listed.setIfInBounds i true) W) (r : ∀ l W, AO ops i l → S l W → er P E o W v W) (h : PX P n ops Q S fuel (listed.setIfInBounds i true) (gB E dd v) W) : PX P n ops Q S (fuel + 1) listed E W := fun g a ha => by
  simp only [vt, Bool.and_eq_true] at b
  have k : i ∈ Region.ready .any ops listed := by simpa using b.2
  exact CH j (Region.noSelect_spec b.1.1) (fun _ _ _ h => h) hm fuel listed a W (Region.free_spec j b.1.2) g k (.inl ⟨hw.of ha, fun l w hp d => by rw [ha.eval]; exact r l w hp d⟩) m (by rw [p]; exact h (g.set k) _ (ha.put q v))
theorem mh {A : Value → Prop} {o : Oper} {dd : Nat} (i : Nat) (j : ops[i]? = some o) (k : vt ops listed i = true) (hw : mC n ops E o) (g : o.dst = some dd) (m : dd < n) (hm : ∀ l w, S (l.setIfInBounds i true) w → S l w) (d : S (listed.setIfInBounds i true) W) (q : ∃ p, A p ∧ ∀ W, er P E o W p W) (h : ∀ p, A p → PX P n ops Q S fuel (listed.setIfInBounds i true) (gB E dd p) W) : PX P n ops Q S (fuel + 1) listed E W := by
  obtain ⟨p, a, b⟩ := q
  exact cX i j k hw g m hm d (fun _ W _ _ => b W) (h p a)
theorem Fy {o : Oper} {dd : Nat} (i : Nat) (g : ops[i]? = some o) (b : vt ops listed i = true) (hw : ∀ a, Ag n a E → Region.wanted o (yielded ops a.tmps) = false) (m : o.dst = some dd) (p : dd < n) (hm : ∀ l w, S (l.setIfInBounds i true) w → S l w) (k : S (listed.setIfInBounds i true) W) (h : PX P n ops Q S fuel (listed.setIfInBounds i true) (gB E dd undef) W) : PX P n ops Q S (fuel + 1) listed E W := fun d a ha => by
  simp only [vt, Bool.and_eq_true] at b
  have j : i ∈ Region.ready .any ops listed := by simpa using b.2
  exact CH g (Region.noSelect_spec b.1.1) (fun _ _ _ h => h) hm fuel listed a W (Region.free_spec g b.1.2) d j (.inr ⟨hw a ha, rfl⟩) k (by rw [m]; exact h (d.set j) _ (ha.put p _))
theorem LU {o : Oper} {dd j t : Nat} {want : Bool} (i : Nat) (m : ops[i]? = some o) (q : vt ops listed i = true) (k : o.guard = some (j, want)) (p : (ops[j]?).bind (·.dst) = some t) (s : t < n) (b : E t = .bool (!want)) (g : o.dst = some dd) (r : dd < n) (hm : ∀ l w, S (l.setIfInBounds i true) w → S l w) (d : S (listed.setIfInBounds i true) W) (h : PX P n ops Q S fuel (listed.setIfInBounds i true) (gB E dd undef) W) : PX P n ops Q S (fuel + 1) listed E W :=
  Fy i m q (fun a ha => by have u := ha.yield p s b; simp [Region.wanted, k, u]) g r hm d h
theorem Ku {o : Oper} {dd j t : Nat} {want : Bool} (i : Nat) (m : ops[i]? = some o) (q : vt ops listed i = true) (k : o.guard = some (j, want)) (p : (ops[j]?).bind (·.dst) = some t) (s : t < n) (b : E t = undef) (g : o.dst = some dd) (r : dd < n) (hm : ∀ l w, S (l.setIfInBounds i true) w → S l w) (d : S (listed.setIfInBounds i true) W) (h : PX P n ops Q S fuel (listed.setIfInBounds i true) (gB E dd undef) W) : PX P n ops Q S (fuel + 1) listed E W :=
  Fy i m q (fun a ha => by have u := ha.Bq p s b; simp [Region.wanted, k, u]) g r hm d h
theorem Kx {o : Oper} {dd : Nat} (i : Nat) (t : ops[i]? = some o) (k : Region.ready .any ops listed = [i]) (hw : mC n ops E o) (m : o.dst = some dd) (p : dd < n) (h : fQ P E o W fun v W' => S (listed.setIfInBounds i true) W' ∧ PX P n ops Q S fuel (listed.setIfInBounds i true) (gB E dd v) W') : PX P n ops Q S (fuel + 1) listed E W := fun l a ha => by
  have b : i ∈ Region.ready .any ops listed := by rw [k]; simp
  refine ⟨fun s => (by rw [s] at k; cases k), fun j q => ?_⟩
  rw [k] at q
  obtain rfl := List.mem_singleton.1 q
  unfold wpOp
  simp only [t]
  rw [if_pos (hw.of ha)]
  refine .inl ?_
  unfold Oper.wp
  rw [ha.eval]
  rcases h with ⟨v, W', g, d⟩ | ⟨W', g, d⟩ | ⟨f, args, g, d⟩
  · rw [g, Oper.upon_value]; exact ⟨d.1, by rw [m]; exact d.2 (l.set b) _ (ha.put p v)⟩
  · rw [g, Oper.upon_skip]; exact ⟨d.1, by rw [m]; exact d.2 (l.set b) _ (ha.put p _)⟩
  · rw [g, Oper.upon_enter]
    refine Calls.mono d ?_
    rintro e u ⟨v, rfl, r⟩
    exact ⟨r.1, by simp only [m]; exact r.2 (l.set b) _ (ha.put p v)⟩
theorem L5 {o : Oper} (i : Nat) (s : ops[i]? = some o) (k : Region.ready .any ops listed = [i]) (hw : mC n ops E o) (m : o.dst = none) (h : fQ P E o W fun _ W' => S (listed.setIfInBounds i true) W' ∧ PX P n ops Q S fuel (listed.setIfInBounds i true) E W') : PX P n ops Q S (fuel + 1) listed E W := fun l a ha => by
  have b : i ∈ Region.ready .any ops listed := by rw [k]; simp
  refine ⟨fun r => (by rw [r] at k; cases k), fun j p => ?_⟩
  rw [k] at p
  obtain rfl := List.mem_singleton.1 p
  unfold wpOp
  simp only [s]
  rw [if_pos (hw.of ha)]
  refine .inl ?_
  unfold Oper.wp
  rw [ha.eval]
  rcases h with ⟨v, W', g, d⟩ | ⟨W', g, d⟩ | ⟨f, args, g, d⟩
  · rw [g, Oper.upon_value, m]; exact ⟨d.1, d.2 (l.set b) _ (ha.sR _)⟩
  · rw [g, Oper.upon_skip, m]; exact ⟨d.1, d.2 (l.set b) _ (ha.sR _)⟩
  · rw [g, Oper.upon_enter]
    refine Calls.mono d ?_
    rintro e t ⟨v, rfl, q⟩
    simp only [m]
    exact ⟨q.1, q.2 (l.set b) _ (ha.sR _)⟩
theorem dG (d : Region.ready .any ops listed = []) (h : Q .normal E W) : PX P n ops Q S fuel listed E W := fun _ a ha => by
  cases fuel with
  | zero => exact ⟨d, E, ha, h⟩
  | succ f => exact ⟨fun _ => ⟨E, ha, h⟩, fun i b => by rw [d] at b; cases b⟩
theorem tQ {p : Prop} {b : Bool} (a : b = true) (h : b = false) : p := by rw [a] at h; cases h
theorem fO {a : Array Bool} (b : listed = a) (h : PX P n ops Q S fuel a E W) : PX P n ops Q S fuel listed E W := by rw [b]; exact h
theorem wx {o t : Oper} {d u : Nat} (i j : Nat) (J : ops[i]? = some o) (L : ops[j]? = some t) (s : Region.ready .any ops listed = [i, j]) (hw : mC n ops E o) (z : mC n ops E t) (p : o.dst = some d) (x : t.dst = some u) (r : d < n) (y : u < n) (h : fQ P E o W fun v W' => S (listed.setIfInBounds i true) W' ∧ PX P n ops Q S fuel (listed.setIfInBounds i true) (gB E d v) W') (G : fQ P E t W fun v W' => S (listed.setIfInBounds j true) W' ∧ PX P n ops Q S fuel (listed.setIfInBounds j true) (gB E u v) W') : PX P n ops Q S (fuel + 1) listed E W := fun w a ha => by
  have key : ∀ (k : Nat) (q : Oper) (e : Nat), ops[k]? = some q → k ∈ Region.ready .any ops listed → mC n ops E q → q.dst = some e → e < n → (fQ P E q W fun v W' => S (listed.setIfInBounds k true) W' ∧ PX P n ops Q S fuel (listed.setIfInBounds k true) (gB E e v) W') →
      wpOp P ops (lift n Q) k (fun F A => S (listed.setIfInBounds k true) A ∧ F3 P ops (lift n Q) S fuel (listed.setIfInBounds k true) F A) a W := by
    intro k q e l b hw p r h
    unfold wpOp
    simp only [l]
    rw [if_pos (hw.of ha)]
    refine .inl ?_
    unfold Oper.wp
    rw [ha.eval]
    rcases h with ⟨v, W', m, g⟩ | ⟨W', m, g⟩ | ⟨f, args, m, g⟩
    · rw [m, Oper.upon_value]; exact ⟨g.1, by rw [p]; exact g.2 (w.set b) _ (ha.put r v)⟩
    · rw [m, Oper.upon_skip]; exact ⟨g.1, by rw [p]; exact g.2 (w.set b) _ (ha.put r _)⟩
    · rw [m, Oper.upon_enter]
      refine Calls.mono g ?_
      rintro e A ⟨v, rfl, D⟩
      exact ⟨D.1, by simp only [p]; exact D.2 (w.set b) _ (ha.put r v)⟩
  refine ⟨fun I => (by rw [I] at s; cases s), fun k l => ?_⟩
  rw [s] at l
  rcases List.mem_cons.1 l with rfl | l
  · exact key _ o d J (by rw [s]; simp) hw p r h
  · obtain rfl := List.mem_singleton.1 l
    exact key _ t u L (by rw [s]; simp) z x y G
theorem dW {l : Array Bool} {i j : Nat} {A : Prop} (a : Nat.beq i j = false) (h : (l.setIfInBounds i true).getD j true = false → A) : l.getD j true = false → A := fun b => h (by
  rw [getD_set_ne true (fun e => by subst e; simp at a)]; exact b)
end
theorem uk.at {α : Type} {e : TypeId} {enc : α → List Value} {k : Nat} {v : Value} {l : List α} {R : List (Nat × Obj)} (h : bG e enc k v l R) (d : ∀ x, (enc x).length = k) {p : Value} {i : Nat} (hp : uk R k p i) {x : α} (g : l[i]? = some x) : At (uj R) p (enc x) := by
  obtain ⟨a, cur, cap, rfl, rfl, _, _, _, _, rfl, b⟩ := vm h d hp g
  exact ⟨a, i * k, cur, e, (0, 0), rfl, by simp [uj], b⟩
theorem pI.form {κ β : Type} {kenc : κ → Value} {vf : β → Value} {μ : bW} {v : Value} {l : List (κ × β)} (h : pI kenc vf μ v l) : ∃ r, v = .map r := by
  rcases h with ⟨h, _⟩ | ⟨m, es, clock, h, _⟩
  · exact ⟨_, h⟩
  · exact ⟨_, h⟩
noncomputable def Bh {β : Type} (l : List (ByteArray × β)) : Option (List ByteArray) :=
  open Classical in if (l.map (·.1)).Nodup ∧ (∀ p ∈ l, p.1.size ≤ maxLen) ∧ l.length * 16 ≤ 140737488355328 then some (oq (l.map (·.1))) else none
def HO {κ κ2 β α : Type} (a : Nat) (mk : κ → κ2 → α) (l : List (κ × List (κ2 × β))) : Option (List α) :=
  if (l.flatMap (fun p => p.2.map (fun q => mk p.1 q.1))).length * a ≤ 140737488355328 ∧ (l.flatMap (fun p => p.2.map (fun q => mk p.1 q.1))).length ≤ maxLen then some (l.flatMap (fun p => p.2.map (fun q => mk p.1 q.1))) else none
end Go.Proofs.YtmlncblocfcmiaaGreat
namespace Go.Proofs.YtmlncblocfcmiaaGreat
open Go.RowKit
section
variable {P : Program} {n : Nat} {Q : kj} {E : Nat → Value} {W : World} {ops : Array Oper} {rest : List Oper}
variable {dd : Bool} {α : Type} {enc : α → List Value} {k : Nat} {μ : bW} {v : Value}
variable {d : Option Nat} {ty : TypeId} {pos : String} {af : Array Edge} {g : Option (Nat × Bool)} {F : Nat → Prop} {w : World} {L : List (Nat × Obj)}
theorem Hj {x y : Operand} {ats : Array TypeId} {k : IntKind} {a b : Int} (h : aS E x = .int k a) (i : aS E y = .int k b) :
    er P E ⟨d, .call ⟨.builtin .max, #[x, y], ats⟩, ty, pos, af, g⟩ W (.int k (if b > a then b else a)) W := by
  show (do let d ← resolve (aS E) ⟨.builtin .max, #[x, y], ats⟩ ty; invoke d.target d.args : Sem Next).run P W = _
  simp [resolve, invoke, h, i, builtin, Builtin.max_, Builtin.max2]
end
end Go.Proofs.YtmlncblocfcmiaaGreat
namespace Go.Proofs.YtmlncblocfcmiaaGreat
open Go.RowKit
variable {dd : Bool}
section
variable {P : Program} {fn : Func} {R : Ending → World → Prop} {E : Nat → Value} {W : World}
theorem iq {d : Tmp} {b : TypeId} {a : Addr} {v0 : Value} {g : Tmp} {v1 : Value} (k : fn.results = #[.cell d b, .tmp g]) (i : E d = .pointer (some a)) (m : (Instr.loadAt b (.pointer (some a))).run P W = .ok v0 W) (j : E g = v1) (h : R (.returned (.tuple #[v0, v1])) W) : rp P fn R .ret E W :=
  ⟨.tuple #[v0, v1], fun tmps l => by
    have n : (loadVar b a).run P W = .ok v0 W := by simpa [Instr.loadAt, Instr.sureAddr] using m
    simp [results, k, l, asAddr, i, n, j], h⟩
theorem EC {a : Tmp} {v0 : Value} {b : Tmp} {v1 : Value} {d : Tmp} {v2 : Value} (k : fn.results = #[.tmp a, .tmp b, .tmp d]) (g : E a = v0) (i : E b = v1) (j : E d = v2) (h : R (.returned (.tuple #[v0, v1, v2])) W) : rp P fn R .ret E W :=
  ⟨.tuple #[v0, v1, v2], fun tmps l => by
    skip
    simp [results, k, l, asAddr, g, i, j], h⟩
end
end Go.Proofs.YtmlncblocfcmiaaGreat
namespace Go.Proofs.YtmlncblocfcmiaaGreat
open Go.RowKit
section
variable {x y : Nat × Obj} {A B C L R S : List (Nat × Obj)}
theorem Pz : (x :: A).Perm (x :: A) := .refl _
theorem Pb (h : A.Perm (x :: B)) : (y :: A).Perm (x :: y :: B) := (h.cons y).trans (.swap ..)
theorem Pr (h : A.Perm (x :: B)) : (S ++ A).Perm (x :: (S ++ B)) := (h.append_left S).trans List.perm_middle
theorem Qz : (R ++ A).Perm (R ++ A) := .refl _
theorem Qb (h : A.Perm (R ++ B)) : (y :: A).Perm (R ++ (y :: B)) := (h.cons y).trans List.perm_middle.symm
theorem Qr (h : A.Perm (R ++ B)) : (S ++ A).Perm (R ++ (S ++ B)) := (h.append_left S).trans (List.perm_append_comm_assoc S R B)
def eC (L L' : List (Nat × Obj)) : Prop := ∃ M, L.Perm (L' ++ M)
theorem Sn : eC L [] := ⟨L, .refl _⟩
theorem St : eC L L := ⟨[], by rw [List.append_nil]⟩
theorem Sb (h : L.Perm (x :: A)) (k : eC A B) : eC L (x :: B) := let ⟨M, m⟩ := k; ⟨M, h.trans (m.cons x)⟩
theorem Sr (h : L.Perm (R ++ A)) (k : eC A B) : eC L (R ++ B) := let ⟨M, m⟩ := k; ⟨M, by rw [List.append_assoc]; exact h.trans (m.append_left R)⟩
theorem Kb (k : eC A B) : eC (x :: A) (x :: B) := Sb Pz k
theorem Kr (k : eC A B) : eC (R ++ A) (R ++ B) := Sr Qz k
theorem Db (k : eC A B) : eC (x :: A) B := let ⟨M, m⟩ := k; ⟨x :: M, (m.cons x).trans List.perm_middle.symm⟩
theorem Dr (k : eC A B) : eC (R ++ A) B := let ⟨M, m⟩ := k; ⟨R ++ M, (m.append_left R).trans (List.perm_append_comm_assoc R B M)⟩
theorem eC.mem (s : eC L A) : ∀ p, p ∈ A → p ∈ L := fun p hp => let ⟨M, m⟩ := s; m.mem_iff.2 (List.mem_append_left _ hp)
theorem ST.aF {dd : Bool} {F : Nat → Prop} {w W : World} {μ : bW} (h : ST dd F w W μ L) (s : eC L A) : ST dd F w W μ A := let ⟨M, m⟩ := s; (h.perm m).sublist (List.sublist_append_left A M)
theorem gd.aF {μ : bW} {W : World} (h : gd μ L W) (s : eC L A) : gd μ A W := h.sub (bO.refl _) s.mem
theorem gd.mY {μ μ' : bW} {W : World} (h : gd μ L W) (a : bO μ' μ) (s : eC L A) : gd μ' A W := h.sub a s.mem
theorem Cn : L.Perm ([] ++ L) := .refl _
theorem Cb (h : L.Perm (x :: A)) (k : A.Perm (B ++ C)) : L.Perm ((x :: B) ++ C) := h.trans (k.cons x)
theorem Cr (h : L.Perm (R ++ A)) (k : A.Perm (B ++ C)) : L.Perm ((R ++ B) ++ C) := by rw [List.append_assoc]; exact h.trans (k.append_left R)
theorem C0 (k : L.Perm (B ++ C)) : L.Perm (([] ++ B) ++ C) := k
theorem Tn : ([] ++ A).Perm A := .refl _
theorem Tb (h : (A ++ B).Perm C) : ((x :: A) ++ B).Perm (x :: C) := h.cons x
theorem Tr (h : (A ++ B).Perm C) : ((R ++ A) ++ B).Perm (R ++ C) := by rw [List.append_assoc]; exact h.append_left R
theorem Nb (h : L.Perm (x :: A)) (k : A.Perm B) : L.Perm (x :: B) := h.trans (k.cons x)
theorem Nr (h : L.Perm (R ++ A)) (k : A.Perm B) : L.Perm (R ++ B) := h.trans (k.append_left R)
theorem Nz : L.Perm L := .refl _
theorem M3 {R' R1 : List (Nat × Obj)} (hp : R.Perm (R' ++ R1)) : (R ++ A).Perm (R' ++ (R1 ++ A)) := by rw [← List.append_assoc]; exact hp.append_right A
theorem Mh : x ∈ x :: A := .head _
theorem Mt (h : x ∈ A) : x ∈ y :: A := .tail _ h
theorem Ma (h : x ∈ A) : x ∈ R ++ A := List.mem_append_right _ h
theorem Ml (h : x ∈ R) : x ∈ R ++ A := List.mem_append_left _ h
end
section
variable {dd : Bool} {F : Nat → Prop} {w W : World} {μ : bW} {L L0 L1 Y R : List (Nat × Obj)}
theorem ST.Bt (h : ST dd cC w W μ L) (s : eC L L1) : nw dd [] L1 w W := let ⟨_, m⟩ := s; (h.perm m).Me
theorem ST.ek (h : ST dd (keys L0) w W μ L) (s : eC L L1) : nw dd L0 L1 w W := let ⟨_, m⟩ := s; (h.perm m).Md
theorem ST.EA : ∀ {R : List (Nat × Obj)} {μ : bW}, ST dd F w W μ (R ++ Y) → ∃ μ', ST dd F w W μ' Y ∧ bO μ μ' ∧ Lo F w μ μ' ∧ ∀ b o, (b, o) ∈ R → μ' b = some o
  | [], μ, h => ⟨μ, h, bO.refl _, Lo.refl, fun _ _ h => by cases h⟩
  | (g, o) :: R, μ, h => by
    have d : ST dd F w W μ ([] ++ (g, o) :: (R ++ Y)) := h
    obtain ⟨μ', j, i, k, l⟩ := ST.EA (R := R) (ST.CA (A := []) d)
    refine ⟨μ', j, (ST.BY (A := []) d).trans i, (ST.Hh (A := []) d).trans k, fun b m a => ?_⟩
    rcases List.mem_cons.1 a with a | a
    · cases a; exact i _ _ (if_pos rfl)
    · exact l b m a
theorem ST.IQ {α : Type} {e' : TypeId} {enc : α → List Value} {k : Nat} {v : Value} {l : List α} (a : ST dd F w W μ (R ++ Y)) (h : bG e' enc k v l R) (j : ∀ x, (enc x).length = k) : ∃ μ', ST dd F w W μ' Y ∧ bO μ μ' ∧ Lo F w μ μ' ∧ Sl (Pl enc) k μ' v l := by
  obtain ⟨μ', b, d, g, i⟩ := ST.EA a
  exact ⟨μ', b, d, g, h.sl j i⟩
section
variable {P : Program} {n : Nat} {Q : kj} {E : Nat → Value} {V : World} {id : Nat} {l : List Oper} {A B C : List (Nat × Obj)}
theorem cT (a : gd μ A V.drew) (hm : P.follows .mixedOrders = true) (h : PX P n l.toArray Q (fun _ W => gd μ A W) l.length (Array.replicate l.length false) E V.drew) : CW P n (.region id l.toArray true) Q E V := EK _ hm h
theorem oB (i : Nat) (a : gd μ A V.drew) (b : gd μ B V.drew) (hm : P.follows .mixedOrders = true) (h : PX P n l.toArray Q (fun l W => gd μ A W ∧ (l.getD i true = false → gd μ B W)) l.length (Array.replicate l.length false) E V.drew) : CW P n (.region id l.toArray true) Q E V := EK _ hm h
end
structure gi (μ : bW) (L0 : List (Nat × Obj)) (w : World) : Prop where
  H : yr L0 w
  N : (L0.map (·.1)).Nodup
  S : bO μ (nK w L0)
theorem ST.HC (h : gi μ L0 w) : ST dd (keys L0) w w μ L0 := (ST.KA h.H h.N).dK h.S
end
section
variable {dd : Bool} {P : Program} {E : Nat → Value} {W : World} {d : Option Nat} {ty : TypeId} {pos : String} {af : Array Edge} {g : Option (Nat × Bool)} {F : Nat → Prop} {w : World} {μ : bW} {L : List (Nat × Obj)}
theorem aX {K : Value → World → Prop} {B : List (Nat × Obj)} {t : TypeId} {x y : Operand} (v : Value) {b off : Nat} {cs : Array Value} {T : TypeId} (a : Array Value) (i : ST dd F w W μ ((b, .cells cs T (0, 0)) :: B)) (n : aS E x = .pointer (some ⟨b, off, none⟩)) (p : aS E y = v) (k : ∀ w, (sizeOf t).run P w = .ok v.cells.size w) (j : ∀ u ∈ v.cells.toList, u.oneCell' = true) (m : off + v.cells.size ≤ cs.size) (l : (cs.toList.take off ++ v.cells.toList ++ cs.toList.drop (off + v.cells.size)).toArray = a) (h : ∀ W', ST dd F w W' μ ((b, .cells a T (0, 0)) :: B) → K undef W') : fQ P E ⟨d, .store t x y, ty, pos, af, g⟩ W K := JL [] v a i n p k j m l h
end
section
variable {dd : Bool}
variable {P : Program} {n : Nat} {Q : kj} {E : Nat → Value} {W : World} {ops : Array Oper} {rest : List Oper}
  {d : Option Nat} {ty : TypeId} {pos : String} {af : Array Edge} {g : Option (Nat × Bool)}
  {F : Nat → Prop} {w : World} {μ : bW} {L : List (Nat × Obj)}
theorem fV {K : Value → World → Prop} {α : Type} {e t : TypeId} {enc : α → List Value} {k a : Nat} {z v vs : Value} {l m r : List α} {R Y : List (Nat × Obj)} {x y : Operand} {i : TypeInfo} (b : ST dd F w W μ (R ++ Y)) (J : ∀ x, (enc x).length = k) (n : 0 < k) (A : ∀ x, ∀ u ∈ enc x, u.oneCell' = true) (M : P.underlying t = some (.slice e)) (I : P.info? e = some i) (T : i.zero = some z) (q : z.cells.size = k) (p : i.size = k) (j : i.bytes = a) (O : aS E x = v) (Q : aS E y = vs) (D : bG e enc k v l R) (L : Sl (Pl enc) k (hp W) vs m) (G : eS a l m = some r) (h : ∀ W' s R', ST dd F w W' μ (R' ++ Y) → bG e enc k s r R' → K s W') : fQ P E ⟨d, .call ⟨.builtin .append, #[x, y], #[t, t]⟩, ty, pos, af, g⟩ W K :=
  Ef [] b J n A M I T q p j O Q D L G h
end
section
variable {dd : Bool}
variable {P : Program} {E : Nat → Value} {W : World} {d : Option Nat} {ty : TypeId} {pos : String} {af : Array Edge} {g : Option (Nat × Bool)}
  {F : Nat → Prop} {w : World} {μ : bW} {L : List (Nat × Obj)}
theorem Gt {K : Value → World → Prop} {α : Type} {e : TypeId} {enc : α → List Value} {k : Nat} {l : List α} {f : FuncId} {fv : Operand} {ax : Array Operand} {ats : Array TypeId} {caps : Array Value} {args : List Value} (Y : List (Nat × Obj)) (a : ST dd F w W μ Y) (i : aS E fv = .func (.func f) #[] caps) (he : ∀ args w, (callFunc f args).run P w = .ok (.enter f args) w) (ha : ax.map (aS E) ++ caps = args.toArray) (b : dP dd P f args W e enc k l) (h : ∀ W' v μ' R, ST dd F w W' μ' (R ++ Y) → bO μ μ' → Lo F w μ μ' → bG e enc k v l R → K v W') : fQ P E ⟨d, .call ⟨.value fv, ax, ats⟩, ty, pos, af, g⟩ W K :=
  Ge [] Y a i he ha b h
end
section
variable {dd : Bool}
variable {P : Program} {E : Nat → Value} {W : World} {d : Option Nat} {ty : TypeId} {pos : String} {af : Array Edge} {g : Option (Nat × Bool)}
  {F : Nat → Prop} {w : World} {μ : bW} {L : List (Nat × Obj)} {α : Type} {e' : TypeId} {enc : α → List Value} {k : Nat} {v : Value} {l : List α} {R : List (Nat × Obj)}
theorem wT {K : Value → World → Prop} {Y : List (Nat × Obj)} {t : TypeId} {x y : Operand} {p u : Value} {i : Nat} {x0 x1 : α} (a : ST dd F w W μ (R ++ Y)) (h : bG e' enc k v l R) (n : ∀ x, (enc x).length = k) (b : ∀ x, ∀ u ∈ enc x, u.oneCell' = true) (r : aS E x = p) (s : aS E y = u) (hu : u.cells = (enc x1).toArray) (hp : uk R k p i) (q : l[i]? = some x0) (m : ∀ w, (sizeOf t).run P w = .ok k w) (j : ∀ W' R', ST dd F w W' μ (R' ++ Y) → bG e' enc k v (l.set i x1) R' → K undef W') : fQ P E ⟨d, .store t x y, ty, pos, af, g⟩ W K :=
  Gk [] a h n b r s hu hp q m j
end
section
variable {dd : Bool}
variable {P : Program} {E : Nat → Value} {W : World} {d : Option Nat} {ty : TypeId} {pos : String} {af : Array Edge} {g : Option (Nat × Bool)}
  {F : Nat → Prop} {w : World} {μ : bW} {L : List (Nat × Obj)} {α : Type} {e' : TypeId} {enc : α → List Value} {k : Nat} {v : Value} {l : List α} {R : List (Nat × Obj)}
theorem vT {K : Value → World → Prop} (z : α) {Y : List (Nat × Obj)} {t e : TypeId} {x : Operand} {u b : Value} {i : Nat} (a : ST dd F w W μ (R ++ Y)) (h : bG e' enc k v l R) (p : ∀ x, (enc x).length = k) (j : ∀ x, ∀ u ∈ enc x, u.oneCell' = true) (q : P.underlying t = some (.slice e)) (s : ∀ w, (zeroValue e).run P w = .ok b w) (hu : uv k v i u) (n : b.cells = (enc z).toArray) (r : aS E x = u) (m : ∀ W' R', ST dd F w W' μ (R' ++ Y) → bG e' enc k v (ie l i z) R' → K (.tuple #[]) W') : fQ P E ⟨d, .call ⟨.builtin .clear, #[x], #[t]⟩, ty, pos, af, g⟩ W K :=
  E8 z [] a h p j q s hu n r m
end
section
variable {dd : Bool}
variable {κ γ : Type} {Q : Value → γ → List (Nat × Obj) → Prop} {beq : κ → κ → Bool} {kenc : κ → Value}
variable {P : Program} {W : World} {kt : TypeId} {E : Nat → Value} {d : Option Nat} {ty : TypeId} {pos : String} {af : Array Edge} {g : Option (Nat × Bool)} {F : Nat → Prop} {w : World} {μ : bW} {L : List (Nat × Obj)}
variable {κ2 β : Type} {kenc2 : κ2 → Value} {vf : β → Value} {beq2 : κ2 → κ2 → Bool} {kt2 : TypeId}
theorem HJ {i : Value → World → Prop} {Y R : List (Nat × Obj)} {t e : TypeId} {m x y : Operand} {p : Value} {b : List (κ × Value)} {l n : List (κ × List (κ2 × β))} {k : κ} {j : κ2} {v : β} (r : ∀ {x y : κ}, beq x y = true → x = y) (K : iZ P kt2 kenc2 beq2) (u : P.underlying t = some (.map kt2 e)) (a : ST dd F w W μ (R ++ Y)) (h : fk kenc (ej kenc2 vf) p b l R) (hm : aS E m = kL beq b k (.map none)) (z : aS E x = kenc2 j) (A : aS E y = vf v) (s : Af beq beq2 l k j v = some n) (q : ∀ W' R', ST dd F w W' μ (R' ++ Y) → fk kenc (ej kenc2 vf) p b n R' → i undef W') : fQ P E ⟨d, .mapUpdate t m x y, ty, pos, af, g⟩ W i :=
  HQ [] r K u a h hm z A s q
end
section
variable {dd : Bool}
variable {κ γ : Type} {Q : Value → γ → List (Nat × Obj) → Prop} {beq : κ → κ → Bool} {kenc : κ → Value}
variable {P : Program} {W : World} {kt : TypeId} {E : Nat → Value} {d : Option Nat} {ty : TypeId} {pos : String} {af : Array Edge} {g : Option (Nat × Bool)} {F : Nat → Prop} {w : World} {μ : bW} {L : List (Nat × Obj)}
variable {κ2 β : Type} {kenc2 : κ2 → Value} {vf : β → Value} {beq2 : κ2 → κ2 → Bool} {kt2 : TypeId}
theorem GX {i : Value → World → Prop} {Y R R2 : List (Nat × Obj)} {t e : TypeId} {m x y : Operand} {b : Value} {n : List (κ × Value)} {l j : List (κ × γ)} {k : κ} {u : Value} {z : γ} (K : iZ P kt kenc beq) (s : P.underlying t = some (.map kt e)) (a : ST dd F w W μ (R ++ (R2 ++ Y))) (h : fk kenc Q b n l R) (hm : aS E m = b) (v : aS E x = kenc k) (A : aS E y = u) (r : Q u z R2) (q : AM beq l k z = some j) (p : ∀ W' R', ST dd F w W' μ (R' ++ Y) → fk kenc Q b (gH beq n k u) j R' → i undef W') : fQ P E ⟨d, .mapUpdate t m x y, ty, pos, af, g⟩ W i :=
  HN [] K s a h hm v A r q p
end
section
variable {dd : Bool}
variable {κ γ : Type} {Q : Value → γ → List (Nat × Obj) → Prop} {beq : κ → κ → Bool} {kenc : κ → Value}
variable {P : Program} {W : World} {kt : TypeId} {E : Nat → Value} {d : Option Nat} {ty : TypeId} {pos : String} {af : Array Edge} {g : Option (Nat × Bool)} {F : Nat → Prop} {w : World} {μ : bW} {L : List (Nat × Obj)}
theorem KI {i : Value → World → Prop} {Y R R1 : List (Nat × Obj)} {t e : TypeId} {m x y : Operand} {b : Value} {j : List (κ × Value)} {l : List (κ × γ)} {k : κ} {u : Value} {z : γ} (K : iZ P kt kenc beq) (q : P.underlying t = some (.map kt e)) (a : ST dd F w W μ (R ++ (R1 ++ Y))) (h : Gn beq kenc Q b j l k R) (hm : aS E m = b) (r : aS E x = kenc k) (s : aS E y = u) (p : Q u z R1) (n : ∀ W' R', ST dd F w W' μ (R' ++ Y) → fk kenc Q b (gH beq j k u) (gH beq l k z) R' → i undef W') : fQ P E ⟨d, .mapUpdate t m x y, ty, pos, af, g⟩ W i :=
  Lh [] K q a h hm r s p n
end
section
variable {dd : Bool}
variable {κ γ : Type} {Q : Value → γ → List (Nat × Obj) → Prop} {beq : κ → κ → Bool} {kenc : κ → Value}
variable {P : Program} {W : World} {kt : TypeId} {E : Nat → Value} {d : Option Nat} {ty : TypeId} {pos : String} {af : Array Edge} {g : Option (Nat × Bool)} {F : Nat → Prop} {w : World} {μ : bW} {L : List (Nat × Obj)}
theorem Gf {j : Value → World → Prop} {Y R : List (Nat × Obj)} {t e : TypeId} {m x : Operand} {i z : Value} {x0 : γ} {A : List (κ × Value)} {l : List (κ × γ)} {k : κ} (q : ∀ {x y : κ}, beq x y = true ↔ x = y) (K : iZ P kt kenc beq) (r : P.underlying t = some (.map kt e)) (u : ∀ w, (zeroValue e).run P w = .ok z w) (b : Q z x0 []) (a : ST dd F w W μ (R ++ Y)) (h : fk kenc Q i A l R) (hm : aS E m = i) (s : aS E x = kenc k) (p : ∀ W' v n R' R1, ST dd F w W' μ (R' ++ (R1 ++ Y)) → Q v ((dE beq l k).getD x0) R1 → DL beq kenc Q i l k n R' → j (.tuple #[v, .int .i64 (n : Nat)]) W') : fQ P E ⟨d, .mapEntry t m x, ty, pos, af, g⟩ W j :=
  GO [] q K r u b a h hm s p
end
section
variable {dd : Bool}
variable {κ γ : Type} {Q : Value → γ → List (Nat × Obj) → Prop} {beq : κ → κ → Bool} {kenc : κ → Value}
variable {P : Program} {W : World} {kt : TypeId} {E : Nat → Value} {d : Option Nat} {ty : TypeId} {pos : String} {af : Array Edge} {g : Option (Nat × Bool)} {F : Nat → Prop} {w : World} {μ : bW} {L : List (Nat × Obj)}
theorem Em {j : Value → World → Prop} {Y R R1 : List (Nat × Obj)} {t e : TypeId} {m s y : Operand} {i u : Value} {z : γ} {l : List (κ × γ)} {k : κ} {n : Nat} (q : ∀ {x y : κ}, beq x y = true ↔ x = y) (K : iZ P kt kenc beq) (a : ST dd F w W μ (R ++ (R1 ++ Y))) (h : DL beq kenc Q i l k n R) (hm : aS E m = i) (v : aS E s = .int .i64 (n : Nat)) (A : aS E y = u) (r : Q u z R1) (p : ∀ W' b R', ST dd F w W' μ (R' ++ Y) → fk kenc Q i b (gH beq l k z) R' → j undef W') : fQ P E ⟨d, .entryStore t m s y, ty, pos, af, g⟩ W j :=
  EJ (e := e) [] q K a h hm v A r p
end
section
variable {dd : Bool}
variable {α : Type} {e : TypeId} {enc : α → List Value} {k : Nat} {v : Value} {l : List α} {R : List (Nat × Obj)}
variable {P : Program} {W : World} {E : Nat → Value} {d : Option Nat} {ty : TypeId} {pos : String} {af : Array Edge} {g : Option (Nat × Bool)} {F : Nat → Prop} {w : World} {μ : bW} {L : List (Nat × Obj)}
theorem E2 {K : Value → World → Prop} {t : TypeId} {a : Nat} {z vs : Value} {m r : List α} {Y : List (Nat × Obj)} {x y : Operand} {i : TypeInfo} (b : ST dd F w W μ (R ++ Y)) (J : ∀ x, (enc x).length = k) (n : 0 < k) (A : ∀ x, ∀ u ∈ enc x, u.oneCell' = true) (M : P.underlying t = some (.slice e)) (I : P.info? e = some i) (T : i.zero = some z) (q : z.cells.size = k) (p : i.size = k) (j : i.bytes = a) (O : aS E x = v) (Q : aS E y = vs) (D : jS e enc k v l R) (L : Sl (Pl enc) k (hp W) vs m) (G : eS a l m = some r) (h : ∀ W' s R', ST dd F w W' μ (R' ++ Y) → jS e enc k s r R' → K s W') : fQ P E ⟨d, .call ⟨.builtin .append, #[x, y], #[t, t]⟩, ty, pos, af, g⟩ W K :=
  Fg [] b J n A M I T q p j O Q D L G h
end
end Go.Proofs.YtmlncblocfcmiaaGreat
namespace Go.Proofs.YtmlncblocfcmiaaGreat
open Go.RowKit
section
variable {P : Program} {n : Nat} {Q : kj} {E : Nat → Value} {W : World} {ops : Array Oper} {rest : List Oper}
variable {d j t : Nat} {want : Bool} {v : Value} {ins : Go.Op} {ty : TypeId} {pos : String} {af : Array Edge} {A : Value → Prop}
theorem V (b : er P E ⟨some d, ins, ty, pos, af, none⟩ W v W) (h : LW P n ops Q rest (gB E d v) W) (a : d < n := by decide) : LW P n ops Q (⟨some d, ins, ty, pos, af, none⟩ :: rest) E W := Cm (.inl rfl) rfl a b h
theorem VE (h : fQ P E ⟨some d, ins, ty, pos, af, none⟩ W fun v W' => LW P n ops Q rest (gB E d v) W') (a : d < n := by decide) : LW P n ops Q (⟨some d, ins, ty, pos, af, none⟩ :: rest) E W := KP (.inl rfl) rfl a h
theorem VO (h : fQ P E ⟨none, ins, ty, pos, af, none⟩ W fun _ W' => LW P n ops Q rest E W') : LW P n ops Q (⟨none, ins, ty, pos, af, none⟩ :: rest) E W := Mo (.inl rfl) rfl h
theorem VQ (b : ∃ p, A p ∧ ∀ W, er P E ⟨some d, ins, ty, pos, af, none⟩ W p W) (h : ∀ p, A p → LW P n ops Q rest (gB E d p) W) (a : d < n := by decide) : LW P n ops Q (⟨some d, ins, ty, pos, af, none⟩ :: rest) E W := KM (.inl rfl) rfl a b h
theorem Vg (b : (ops[j]?).bind (·.dst) = some t) (a : E t = .bool want) (i : er P E ⟨some d, ins, ty, pos, af, some (j, want)⟩ W v W) (h : LW P n ops Q rest (gB E d v) W) (k : t < n := by decide) (g : d < n := by decide) : LW P n ops Q (⟨some d, ins, ty, pos, af, some (j, want)⟩ :: rest) E W := Cm (.inr ⟨j, want, t, rfl, b, k, a⟩) rfl g i h
theorem HA (b : (ops[j]?).bind (·.dst) = some t) (a : E t = .bool want) (h : fQ P E ⟨some d, ins, ty, pos, af, some (j, want)⟩ W fun v W' => LW P n ops Q rest (gB E d v) W') (i : t < n := by decide) (g : d < n := by decide) : LW P n ops Q (⟨some d, ins, ty, pos, af, some (j, want)⟩ :: rest) E W := KP (.inr ⟨j, want, t, rfl, b, i, a⟩) rfl g h
theorem M6 (b : (ops[j]?).bind (·.dst) = some t) (a : E t = .bool want) (i : ∃ p, A p ∧ ∀ W, er P E ⟨some d, ins, ty, pos, af, some (j, want)⟩ W p W) (h : ∀ p, A p → LW P n ops Q rest (gB E d p) W) (k : t < n := by decide) (g : d < n := by decide) : LW P n ops Q (⟨some d, ins, ty, pos, af, some (j, want)⟩ :: rest) E W := KM (.inr ⟨j, want, t, rfl, b, k, a⟩) rfl g i h
theorem Vn (b : (ops[j]?).bind (·.dst) = some t) (a : E t = .bool (!want)) (h : LW P n ops Q rest (gB E d undef) W) (i : t < n := by decide) (g : d < n := by decide) : LW P n ops Q (⟨some d, ins, ty, pos, af, some (j, want)⟩ :: rest) E W := LP rfl g rfl b i a h
theorem Vu (b : (ops[j]?).bind (·.dst) = some t) (a : E t = undef) (h : LW P n ops Q rest (gB E d undef) W) (i : t < n := by decide) (g : d < n := by decide) : LW P n ops Q (⟨some d, ins, ty, pos, af, some (j, want)⟩ :: rest) E W := Ln rfl g rfl b i a h
end
section
variable {P : Program} {n : Nat} {Q : kj} {E : Nat → Value} {W : World} {ops : Array Oper} {S : Array Bool → World → Prop} {fuel : Nat} {listed : Array Bool} {μ : bW} {B : List (Nat × Obj)}
variable {d j t : Nat} {want : Bool} {v : Value} {ins : Go.Op} {ty : TypeId} {pos : String} {af : Array Edge} {A : Value → Prop}
theorem X (i : Nat) (g : ops[i]? = some ⟨some d, ins, ty, pos, af, none⟩) (b : S (listed.setIfInBounds i true) W) (m : ∀ {W}, er P E ⟨some d, ins, ty, pos, af, none⟩ W v W) (h : PX P n ops Q S fuel (listed.setIfInBounds i true) (gB E d v) W) (j : vt ops listed i = true := by a) (hm : ∀ l w, S (l.setIfInBounds i true) w → S l w := by exact fun _ _ h => h) (k : d < n := by decide) : PX P n ops Q S (fuel + 1) listed E W := cX i g j (.inl rfl) rfl k hm b (fun _ _ _ _ => m) h
theorem XH (i : Nat) (g : ops[i]? = some ⟨some d, ins, ty, pos, af, none⟩) (b : gd μ B W) (l : ∀ W, gd μ B W → er P E ⟨some d, ins, ty, pos, af, none⟩ W v W) (h : PX P n ops Q (fun _ W => gd μ B W) fuel (listed.setIfInBounds i true) (gB E d v) W) (j : vt ops listed i = true := by a) (k : d < n := by decide) : PX P n ops Q (fun _ W => gd μ B W) (fuel + 1) listed E W := cX i g j (.inl rfl) rfl k (fun _ _ h => h) b (fun _ W _ h => l W h) h
theorem XQ (i : Nat) (g : ops[i]? = some ⟨some d, ins, ty, pos, af, none⟩) (b : S (listed.setIfInBounds i true) W) (m : ∃ p, A p ∧ ∀ W, er P E ⟨some d, ins, ty, pos, af, none⟩ W p W) (h : ∀ p, A p → PX P n ops Q S fuel (listed.setIfInBounds i true) (gB E d p) W) (j : vt ops listed i = true := by a) (hm : ∀ l w, S (l.setIfInBounds i true) w → S l w := by exact fun _ _ h => h) (k : d < n := by decide) : PX P n ops Q S (fuel + 1) listed E W := mh i g j (.inl rfl) rfl k hm b m h
theorem XE (i : Nat) (b : ops[i]? = some ⟨some d, ins, ty, pos, af, none⟩) (h : fQ P E ⟨some d, ins, ty, pos, af, none⟩ W fun v W' => S (listed.setIfInBounds i true) W' ∧ PX P n ops Q S fuel (listed.setIfInBounds i true) (gB E d v) W') (j : Region.ready .any ops listed = [i] := by a) (g : d < n := by decide) : PX P n ops Q S (fuel + 1) listed E W := Kx i b j (.inl rfl) rfl g h
theorem XO (i : Nat) (b : ops[i]? = some ⟨none, ins, ty, pos, af, none⟩) (h : fQ P E ⟨none, ins, ty, pos, af, none⟩ W fun _ W' => S (listed.setIfInBounds i true) W' ∧ PX P n ops Q S fuel (listed.setIfInBounds i true) E W') (d : Region.ready .any ops listed = [i] := by a) : PX P n ops Q S (fuel + 1) listed E W := L5 i b d (.inl rfl) rfl h
theorem Xg (i : Nat) (k : ops[i]? = some ⟨some d, ins, ty, pos, af, some (j, want)⟩) (m : (ops[j]?).bind (·.dst) = some t) (b : E t = .bool want) (g : S (listed.setIfInBounds i true) W) (s : ∀ {W}, er P E ⟨some d, ins, ty, pos, af, some (j, want)⟩ W v W) (h : PX P n ops Q S fuel (listed.setIfInBounds i true) (gB E d v) W) (p : vt ops listed i = true := by a) (hm : ∀ l w, S (l.setIfInBounds i true) w → S l w := by exact fun _ _ h => h) (r : t < n := by decide) (q : d < n := by decide) : PX P n ops Q S (fuel + 1) listed E W := cX i k p (.inr ⟨j, want, t, rfl, m, r, b⟩) rfl q hm g (fun _ _ _ _ => s) h
theorem ob (i : Nat) (k : ops[i]? = some ⟨some d, ins, ty, pos, af, some (j, want)⟩) (l : (ops[j]?).bind (·.dst) = some t) (b : E t = .bool want) (g : gd μ B W) (r : ∀ W, gd μ B W → er P E ⟨some d, ins, ty, pos, af, some (j, want)⟩ W v W) (h : PX P n ops Q (fun _ W => gd μ B W) fuel (listed.setIfInBounds i true) (gB E d v) W) (m : vt ops listed i = true := by a) (q : t < n := by decide) (p : d < n := by decide) : PX P n ops Q (fun _ W => gd μ B W) (fuel + 1) listed E W := cX i k m (.inr ⟨j, want, t, rfl, l, q, b⟩) rfl p (fun _ _ h => h) g (fun _ W _ h => r W h) h
theorem zY (i : Nat) (g : ops[i]? = some ⟨some d, ins, ty, pos, af, some (j, want)⟩) (k : (ops[j]?).bind (·.dst) = some t) (b : E t = .bool want) (h : fQ P E ⟨some d, ins, ty, pos, af, some (j, want)⟩ W fun v W' => S (listed.setIfInBounds i true) W' ∧ PX P n ops Q S fuel (listed.setIfInBounds i true) (gB E d v) W') (m : Region.ready .any ops listed = [i] := by a) (p : t < n := by decide) (l : d < n := by decide) : PX P n ops Q S (fuel + 1) listed E W := Kx i g m (.inr ⟨j, want, t, rfl, k, p, b⟩) rfl l h
theorem Xn (i : Nat) (k : ops[i]? = some ⟨some d, ins, ty, pos, af, some (j, want)⟩) (m : (ops[j]?).bind (·.dst) = some t) (b : E t = .bool (!want)) (g : S (listed.setIfInBounds i true) W) (h : PX P n ops Q S fuel (listed.setIfInBounds i true) (gB E d undef) W) (p : vt ops listed i = true := by a) (hm : ∀ l w, S (l.setIfInBounds i true) w → S l w := by exact fun _ _ h => h) (r : t < n := by decide) (q : d < n := by decide) : PX P n ops Q S (fuel + 1) listed E W := LU i k p rfl m r b rfl q hm g h
theorem Xu (i : Nat) (k : ops[i]? = some ⟨some d, ins, ty, pos, af, some (j, want)⟩) (m : (ops[j]?).bind (·.dst) = some t) (b : E t = undef) (g : S (listed.setIfInBounds i true) W) (h : PX P n ops Q S fuel (listed.setIfInBounds i true) (gB E d undef) W) (p : vt ops listed i = true := by a) (hm : ∀ l w, S (l.setIfInBounds i true) w → S l w := by exact fun _ _ h => h) (r : t < n := by decide) (q : d < n := by decide) : PX P n ops Q S (fuel + 1) listed E W := Ku i k p rfl m r b rfl q hm g h
end
end Go.Proofs.YtmlncblocfcmiaaGreat
namespace Go.Proofs.YtmlncblocfcmiaaGreat
open Go.RowKit
section
variable {α β γ : Type}
inductive iV (Q : α → β → Prop) : List α → List β → Prop
  | nil : iV Q [] []
  | cons {a : α} {b : β} {l : List α} {m : List β} : Q a b → iV Q l m → iV Q (a :: l) (b :: m)
namespace iV
variable {Q Q' : α → β → Prop}
theorem length {l : List α} {m : List β} (h : iV Q l m) : l.length = m.length := by
  induction h with
  | nil => rfl
  | cons _ _ ih => simp [ih]
theorem imp {l : List α} {m : List β} (h : iV Q l m) (g : ∀ a b, Q a b → Q' a b) : iV Q' l m := by
  induction h with
  | nil => exact .nil
  | cons d _ ih => exact .cons (g _ _ d) ih
theorem get {l : List α} {m : List β} (h : iV Q l m) : ∀ {i : Nat} {b : β}, m[i]? = some b → ∃ a, l[i]? = some a ∧ Q a b := by
  induction h with
  | nil => intro i b d; simp at d
  | cons g _ ih =>
    intro i b d
    cases i with
    | zero => simp at d; subst d; exact ⟨_, rfl, g⟩
    | succ i => simpa using ih (by simpa using d)
theorem append {l a : List α} {m b : List β} (h : iV Q l m) (d : iV Q a b) : iV Q (l ++ a) (m ++ b) := by
  induction h with
  | nil => exact d
  | cons g _ ih => exact .cons g ih
theorem set {l : List α} {m : List β} (h : iV Q l m) {a : α} {b : β} (j : Q a b) : ∀ i : Nat, iV Q (l.set i a) (m.set i b) := by
  induction h with
  | nil => intro i; exact .nil
  | cons d g ih =>
    intro i
    cases i with
    | zero => exact .cons j g
    | succ i => exact .cons d (ih i)
theorem take {l : List α} {m : List β} (h : iV Q l m) : ∀ i : Nat, iV Q (l.take i) (m.take i) := by
  induction h with
  | nil => intro i; simp; exact .nil
  | cons a _ ih =>
    intro i
    cases i with
    | zero => exact .nil
    | succ i => exact .cons a (ih i)
theorem drop {l : List α} {m : List β} (h : iV Q l m) : ∀ i : Nat, iV Q (l.drop i) (m.drop i) := by
  induction h with
  | nil => intro i; simp; exact .nil
  | cons a b ih =>
    intro i
    cases i with
    | zero => exact .cons a b
    | succ i => exact ih i
end iV
theorem wh {P : Nat → β → α → Prop} : ∀ {m : List β} (o : Nat), (∀ (i : Nat) (b : β), m[i]? = some b → ∃ a, P (o + i) b a) → ∃ l : List α, l.length = m.length ∧ ∀ (i : Nat) (b : β), m[i]? = some b → ∃ a, l[i]? = some a ∧ P (o + i) b a
  | [], _, _ => ⟨[], rfl, fun i b h => by simp at h⟩
  | b :: m, o, h => by
    obtain ⟨a, ha⟩ := h 0 b rfl
    obtain ⟨l, g, j⟩ := wh (m := m) (o + 1) (fun i b k => by
      obtain ⟨a, ha⟩ := h (i + 1) b (by simpa using k)
      exact ⟨a, by rw [show o + 1 + i = o + (i + 1) by omega]; exact ha⟩)
    refine ⟨a :: l, by simp [g], fun i c d => ?_⟩
    cases i with
    | zero => simp at d; subst d; exact ⟨a, rfl, ha⟩
    | succ i =>
      obtain ⟨x, n, hp⟩ := j i c (by simpa using d)
      exact ⟨x, by simpa using n, by rw [show o + (i + 1) = o + 1 + i by omega]; exact hp⟩
theorem iV.HF {Q : α → β → Prop} : ∀ {l : List α} {m : List β}, l.length = m.length → (∀ (i : Nat) (a : α) (b : β), l[i]? = some a → m[i]? = some b → Q a b) → iV Q l m
  | [], [], _, _ => .nil
  | [], _ :: _, h, _ => by cases h
  | _ :: _, [], h, _ => by cases h
  | a :: l, b :: m, h, d => .cons (d 0 a b rfl rfl) (iV.HF (by simpa using h) (fun i x y g j => d (i + 1) x y (by simpa using g) (by simpa using j)))
end
structure Deep {β : Type} (R : jq β) (k : Nat) : Prop where
  mono : DE R
  len : ∀ {μ ys x}, R μ ys x → ys.length = k
  one : ∀ {μ ys x}, R μ ys x → ∀ u ∈ ys, u.oneCell' = true
abbrev qo (k : Nat) := {ys : List Value // ys.length = k ∧ ∀ u ∈ ys, u.oneCell' = true}
def oH {k : Nat} (c : qo k) : List Value := c.1
theorem rT {k : Nat} (x : qo k) : (oH x).length = k := x.2.1
theorem IY {k : Nat} (x : qo k) : ∀ u ∈ oH x, u.oneCell' = true := x.2.2
theorem Sl.uu {α : Type} {R : jq α} {k : Nat} {μ : bW} {v : Value} {l : List α} (h : Sl R k μ v l) : v.oneCell' = true := by
  obtain ⟨A, c, rfl, _⟩ := h; rfl
section
variable {β : Type} {Rl : jq β} {k : Nat} {μ μ' : bW} {v : Value} {l : List β}
def Deep.cell (a : Deep Rl k) {ys : List Value} {x : β} (h : Rl μ ys x) : qo k := ⟨ys, a.len h, a.one h⟩
theorem Sl.raw (F : Deep Rl k) (h : Sl Rl k μ v l) : ∃ cl : List (qo k), Sl (Pl oH) k μ v cl ∧ iV (fun c x => Rl μ c.1 x) cl l := by
  obtain ⟨A, c, rfl, z, u, D⟩ := h
  cases l with
  | nil => exact ⟨[], ⟨A, c, rfl, z, u, fun h => absurd h (by simp)⟩, .nil⟩
  | cons x0 l =>
    obtain ⟨b, off, cs, T, fr, rfl, G, E⟩ := D (by simp)
    obtain ⟨cl, r, t⟩ := wh (P := fun i x (c : qo k) => Rl μ c.1 x ∧ ∀ j y, c.1[j]? = some y → cs[off + i * k + j]? = some y) (m := x0 :: l) 0 (fun i x s => by
      obtain ⟨ys, _, n, p⟩ := E i x s
      exact ⟨F.cell n, n, by rw [Nat.zero_add]; exact p⟩)
    refine ⟨cl, ⟨_, c, by rw [r], by omega, u, fun _ => ⟨b, off, cs, T, fr, rfl, G, fun i c q => ?_⟩⟩, iV.HF r (fun i c x q s => ?_)⟩
    · have I : i < (x0 :: l).length := by rw [← r]; exact (List.getElem?d.1 q).1
      obtain ⟨w, a, _, p⟩ := t i _ (List.getElem?g I)
      rw [q] at a; cases a
      exact ⟨c.1, c.2.1, rfl, by rw [Nat.zero_add] at p; exact p⟩
    · obtain ⟨w, a, n, _⟩ := t i x s
      rw [q] at a; cases a
      exact n
theorem Sl.Hr {cl : List (qo k)} (h : Sl (Pl oH) k μ v cl) (t : bO μ μ') (ha : iV (fun c x => Rl μ' c.1 x) cl l) : Sl Rl k μ' v l := by
  obtain ⟨A, c, rfl, w, m, n⟩ := h
  have a := ha.length
  refine ⟨A, c, by rw [a], by omega, m, fun y => ?_⟩
  obtain ⟨b, off, cs, T, fr, rfl, q, p⟩ := n (by omega)
  refine ⟨b, off, cs, T, fr, rfl, t _ _ q, fun i x u => ?_⟩
  obtain ⟨c, r, s⟩ := ha.get u
  obtain ⟨ys, d, g, j⟩ := p i c r
  cases g
  exact ⟨oH c, d, s, j⟩
def qD (Rl : jq β) (k : Nat) (μ : bW) (W : World) (v : Value) (l : List β) : Prop := ∃ cl : List (qo k), Sl (Pl oH) k (hp W) v cl ∧ iV (fun c x => Rl μ c.1 x) cl l
theorem qD.sl (d : Deep Rl k) {W : World} (h : Sl Rl k μ v l) (g : bO μ (hp W)) : qD Rl k μ W v l := by
  obtain ⟨cl, a, b⟩ := h.raw d
  exact ⟨cl, a.mono (Pl.mono _) g, b⟩
theorem Sl.II {b m : Nat} {cl : List (qo k)} {cs : Array Value} {e : TypeId} (hm : cl.length = m) (a : m ≤ maxLen) (g : cs.toList = (cl.map oH).flatten) (d : μ b = some (.cells cs e (0, 0))) : Sl (Pl oH) k μ (.slice (some ⟨b, 0, none⟩) m m) cl := by
  subst hm
  refine ⟨_, _, rfl, Nat.le_refl _, a, fun _ => ⟨b, 0, _, _, _, rfl, d, fun i x h => ⟨oH x, rT x, rfl, fun j y l => ?_⟩⟩⟩
  have := pS rT cl i x h j y l
  rw [← g] at this
  simpa using this
inductive wX (Rl : jq β) (k : Nat) (μ : bW) : List Value → List β → Prop
  | nil : wX Rl k μ [] []
  | cons {ys zs : List Value} {x : β} {l : List β} : Rl μ ys x → wX Rl k μ zs l → wX Rl k μ (ys ++ zs) (x :: l)
theorem wX.cells (d : Deep Rl k) {ys : List Value} (h : wX Rl k μ ys l) : ∃ cl : List (qo k), (cl.map oH).flatten = ys ∧ iV (fun c x => Rl μ c.1 x) cl l := by
  induction h with
  | nil => exact ⟨[], rfl, .nil⟩
  | cons a _ ih =>
    obtain ⟨cl, e, b⟩ := ih
    exact ⟨d.cell a :: cl, by rw [List.map_cons, List.flatten_cons, e]; rfl, .cons a b⟩
theorem qD.lit (g : Deep Rl k) {W : World} {b m : Nat} {ys : List Value} {e : TypeId} (h : wX Rl k μ ys l) (hm : l.length = m) (i : m ≤ maxLen) (j : W.heap[b]? = some (.cells ys.toArray e (0, 0))) : qD Rl k μ W (.slice (some ⟨b, 0, none⟩) m m) l := by
  obtain ⟨cl, d, a⟩ := h.cells g
  exact ⟨cl, Sl.II (by rw [a.length]; exact hm) i d.symm j, a⟩
theorem Sl.imp {R R' : jq β} (h : Sl R k μ v l) (r : ∀ ys x, R μ ys x → R' μ ys x) : Sl R' k μ v l := by
  obtain ⟨A, c, rfl, a, d, g⟩ := h
  refine ⟨A, c, rfl, a, d, fun s => ?_⟩
  obtain ⟨b, off, cs, T, fr, rfl, q, j⟩ := g s
  exact ⟨b, off, cs, T, fr, rfl, q, fun i x t => let ⟨ys, m, n, p⟩ := j i x t; ⟨ys, m, r _ _ n, p⟩⟩
theorem yv : ∀ (l : List Nat) (n : Nat), n ∈ l → n ≤ l.foldr max 0
  | [], n, h => by cases h
  | a :: l, n, h => by
    rcases List.mem_cons.1 h with rfl | h
    · exact Nat.le_max_left _ _
    · exact Nat.le_trans (yv l n h) (Nat.le_max_right _ _)
theorem Sl.LH {R : jq β} {a : Nat → jq β} (h : Sl R k μ v l) (E : ∀ ys x, R μ ys x → ∃ n, a n μ ys x) (up : ∀ n m ys x, n ≤ m → a n μ ys x → a m μ ys x) : ∃ n, Sl (a n) k μ v l := by
  obtain ⟨A, c, rfl, s, t, z⟩ := h
  by_cases u : 0 < l.length
  · obtain ⟨b, off, cs, T, fr, rfl, F, D⟩ := z u
    obtain ⟨I, J, w⟩ := wh (P := fun i x (p : Nat × List Value) => p.2.length = k ∧ a p.1 μ p.2 x ∧ ∀ j y, p.2[j]? = some y → cs[off + i * k + j]? = some y) (m := l) 0 (fun i x r => by
      obtain ⟨ys, g, q, d⟩ := D i x r
      obtain ⟨n, G⟩ := E _ _ q
      exact ⟨(n, ys), g, G, by rw [Nat.zero_add]; exact d⟩)
    refine ⟨(I.map (·.1)).foldr max 0, _, c, rfl, s, t, fun _ => ⟨b, off, cs, T, fr, rfl, F, fun i x r => ?_⟩⟩
    obtain ⟨p, hp, g, q, d⟩ := w i x r
    exact ⟨p.2, g, up _ _ _ _ (yv _ _ (List.mem_map.2 ⟨p, List.mem_of_getElem? hp, rfl⟩)) q, by rw [Nat.zero_add] at d; exact d⟩
  · exact ⟨0, A, c, rfl, s, t, fun h => absurd h u⟩
def cM (e : TypeId) (Rl : jq β) (k : Nat) (μ : bW) (v : Value) (l : List β) (B : List (Nat × Obj)) : Prop := ∃ cl : List (qo k), bG e oH k v cl B ∧ iV (fun c x => Rl μ c.1 x) cl l
variable {e : TypeId} {B : List (Nat × Obj)}
theorem cM.mono (d : Deep Rl k) (h : cM e Rl k μ v l B) (g : bO μ μ') : cM e Rl k μ' v l B := by
  obtain ⟨cl, a, b⟩ := h
  exact ⟨cl, a, b.imp (fun _ _ h => d.mono _ _ _ _ g h)⟩
theorem cM.nil (e : TypeId) (Rl : jq β) (k : Nat) (μ : bW) : cM e Rl k μ (.slice none 0 0) [] [] := ⟨[], bG.nil _ _ _, .nil⟩
theorem cM.lit (g : Deep Rl k) {b m : Nat} {ys : List Value} (h : wX Rl k μ ys l) (hm : l.length = m) (i : m ≤ maxLen) (j : ys.length = m * k) : cM e Rl k μ (.slice (some ⟨b, 0, none⟩) m m) l [(b, .cells ys.toArray e (0, 0))] := by
  obtain ⟨cl, d, a⟩ := h.cells g
  exact ⟨cl, bG.lit (by rw [a.length]; exact hm) i d.symm (by simpa using j), a⟩
theorem cM.form (h : cM e Rl k μ v l B) : ∃ A c, v = .slice A l.length c := by
  obtain ⟨cl, a, b⟩ := h
  rw [← b.length]; exact a.form
theorem cM.len (h : cM e Rl k μ v l B) : l.length ≤ 9223372036854775807 := by
  obtain ⟨cl, a, b⟩ := h
  rw [← b.length]; exact a.len
theorem cM.nd (h : cM e Rl k μ v l B) : (B.map (·.1)).Nodup := let ⟨_, a, _⟩ := h; a.nd
theorem cM.isNil {n c : Nat} (h : cM e Rl k μ (.slice none n c) l B) : l = [] := by
  obtain ⟨cl, a, b⟩ := h
  have := b.length
  rw [a.isNil] at this
  exact List.eq_nil_of_length_eq_zero this.symm
theorem cM.sl (h : cM e Rl k μ v l B) (g : Deep Rl k) (i : bO μ μ') (hm : ∀ b o, (b, o) ∈ B → μ' b = some o) : Sl Rl k μ' v l := by
  obtain ⟨cl, a, d⟩ := h
  exact Sl.Hr (a.sl rT hm) (bO.refl _) (d.imp (fun _ _ h => g.mono _ _ _ _ i h))
end
section
variable {β : Type} {Rl : jq β} {k : Nat} {μ : bW} {v : Value} {l : List β} {e : TypeId} {B : List (Nat × Obj)}
variable {dd : Bool} {F : Nat → Prop} {w W : World} {L : List (Nat × Obj)}
theorem cM.Ms (h : cM e Rl k μ v l B) (b : Deep Rl k) (a : ST dd F w W μ L) (d : ∀ p, p ∈ B → p ∈ L) : Sl Rl k (hp W) v l := h.sl b a.aP (fun _ _ g => a.at_ (d _ g))
theorem qD.row (h : cM e Rl k μ v l B) (a : ST dd F w W μ L) (g : ∀ p, p ∈ B → p ∈ L) : qD Rl k μ W v l := let ⟨cl, b, d⟩ := h; ⟨cl, b.Ms rT a g, d⟩
theorem ST.ml {Y : List (Nat × Obj)} (n : Deep Rl k) (a : ST dd F w W μ (B ++ Y)) (h : cM e Rl k μ v l B) : ∃ μ', ST dd F w W μ' Y ∧ bO μ μ' ∧ Lo F w μ μ' ∧ Sl Rl k μ' v l := by
  obtain ⟨cl, j, m⟩ := h
  obtain ⟨μ', d, b, i, g⟩ := ST.IQ a j rT
  exact ⟨μ', d, b, i, Sl.Hr g (bO.refl _) (m.imp (fun _ _ h => n.mono _ _ _ _ b h))⟩
variable {P : Program} {E : Nat → Value} {d : Option Nat} {ty : TypeId} {pos : String} {af : Array Edge} {g : Option (Nat × Bool)}
theorem dZ {t e' : TypeId} {x a : Operand} {z : IntKind} {i : Int} {x0 : β} {A : List Value → Prop} (r : ∀ {ys}, Rl μ ys x0 → A ys) (u : P.underlying t = some (.slice e')) (he : ∀ w, (sizeOf e').run P w = .ok k w) (y : aS E x = v) (n : aS E a = .int z i) (s : Sl Rl k μ v l) (b : 0 ≤ i) (q : l[i.toNat]? = some x0) :
    ∃ p, (∃ ys, A ys ∧ At μ p ys) ∧ ∀ W, er P E ⟨d, .indexAddr t x a, ty, pos, af, g⟩ W p W := by
  obtain ⟨p, ys, _, h, j, m⟩ := FL (d := d) (ty := ty) (pos := pos) (af := af) (g := g) u he y n s b q
  exact ⟨p, ⟨ys, r h, j⟩, m⟩
theorem lL {x : Operand} {t e' : TypeId} (a : P.underlying t = some (.slice e')) (b : aS E x = v) (h : cM e Rl k μ v l B) : er P E ⟨d, .call ⟨.builtin .len, #[x], #[t]⟩, ty, pos, af, g⟩ W (.int .i64 l.length) W := by
  obtain ⟨A, c, rfl⟩ := h.form
  exact uD a b
theorem cW {t e' : TypeId} {x m : Operand} {G : IntKind} {i : Int} {x0 : β} {A : List Value → Prop} (y : ∀ {ys}, Rl μ ys x0 → A ys) (D : P.underlying t = some (.slice e')) (he : ∀ w, (sizeOf e').run P w = .ok k w) (F : aS E x = v) (s : aS E m = .int G i) (h : cM e Rl k μ v l B) (n : 0 ≤ i) (u : l[i.toNat]? = some x0) :
    ∃ p, (∃ ys, A ys ∧ At (uj B) p ys ∧ uk B k p i.toNat) ∧ ∀ W, er P E ⟨d, .indexAddr t x m, ty, pos, af, g⟩ W p W := by
  obtain ⟨cl, a, q⟩ := h
  obtain ⟨c, j, z⟩ := q.get u
  obtain ⟨p, b, r⟩ := iX (d := d) (ty := ty) (pos := pos) (af := af) (g := g) D he F s a n j
  exact ⟨p, ⟨c.1, y z, b.at a rT j, b⟩, r⟩
theorem Iq {α i : Type} {b : Nat} {l m r : List α} {d g : List i} (h : eS b l m = some r) (j : d.length = l.length) (k : g.length = m.length) : eS b d g = some (d ++ g) ∧ r = l ++ m := by
  unfold eS at h ⊢
  rw [j, k]
  split at h
  · a n; cases h; rw [if_pos n]; exact ⟨rfl, rfl⟩
  · cases h
theorem iN {K : Value → World → Prop} {t : TypeId} {a : Nat} {z vs : Value} {m r : List β} {Y : List (Nat × Obj)} {x y : Operand} {i : TypeInfo} (hD : Deep Rl k) (j : ST dd F w W μ (B ++ Y)) (q : 0 < k) (T : P.underlying t = some (.slice e)) (Q : P.info? e = some i) (hz : i.zero = some z) (u : z.cells.size = k) (s : i.size = k) (p : i.bytes = a) (U : aS E x = v) (Z : aS E y = vs) (M : cM e Rl k μ v l B) (R : qD Rl k μ W vs m) (O : eS a l m = some r) (h : ∀ W' b R', ST dd F w W' μ (R' ++ Y) → cM e Rl k μ b r R' → K b W') : fQ P E ⟨d, .call ⟨.builtin .append, #[x, y], #[t, t]⟩, ty, pos, af, g⟩ W K := by
  obtain ⟨cl, J, A⟩ := M
  obtain ⟨cm, L, D⟩ := R
  obtain ⟨n, rfl⟩ := Iq O A.length D.length
  exact fV j rT q IY T Q hz u s p U Z J L n (fun W' b R' G I => h W' b R' G ⟨_, I, A.append D⟩)
theorem kd {K : Value → World → Prop} {Y : List (Nat × Obj)} {t : TypeId} {x y : Operand} {p : Value} {i : Nat} {x0 x1 : β} {ys : List Value} (r : Deep Rl k) (a : ST dd F w W μ (B ++ Y)) (h : cM e Rl k μ v l B) (D : aS E x = p) (G : aS E y = .agg ys.toArray) (j : Rl μ ys x1) (hp : uk B k p i) (A : l[i]? = some x0) (u : ∀ w, (sizeOf t).run P w = .ok k w) (s : ∀ W' R', ST dd F w W' μ (R' ++ Y) → cM e Rl k μ v (l.set i x1) R' → K undef W') : fQ P E ⟨d, .store t x y, ty, pos, af, g⟩ W K := by
  obtain ⟨cl, q, b⟩ := h
  obtain ⟨c, z, _⟩ := b.get A
  exact wT (x1 := r.cell j) a q rT IY D G rfl hp z u (fun W' R' m n => s W' R' m ⟨_, n, b.set j i⟩)
end
end Go.Proofs.YtmlncblocfcmiaaGreat
namespace Go.Proofs.YtmlncblocfcmiaaGreat
open Go.RowKit
def dR (dd : Bool) (P : Program) (f : FuncId) (args : List Value) (w : World) (μ0 : bW) (L0 : List (Nat × Obj)) (K : Value → List (Nat × Obj) → bW → Prop) : Prop :=
  Calls P f args.toArray w fun e a => ∃ v L1 μ1, e = .returned v ∧ nw dd L0 L1 w a ∧ bO μ0 μ1 ∧ Lo (keys L0) w μ0 μ1 ∧ bO μ1 (nK a L1) ∧ K v L1 μ1
theorem dR.dK {dd : Bool} {P : Program} {f : FuncId} {args : List Value} {w : World} {μ0 : bW} {L0 : List (Nat × Obj)} {K : Value → List (Nat × Obj) → bW → Prop} (h : dR true P f args w μ0 L0 K) : dR dd P f args w μ0 L0 K :=
  Calls.mono h fun _ _ ⟨v, L1, μ1, a, b, d⟩ => ⟨v, L1, μ1, a, b.dK, d⟩
section
variable {dd : Bool} {F : Nat → Prop} {w W W' : World} {μ μ1 : bW} {L L0 L1 L2 : List (Nat × Obj)}
theorem ST.Mc (h : ST dd F w W μ (L0 ++ L)) (j : nw dd L0 L1 W W') (k : Lo (keys L0) W μ μ1) (i : bO μ1 (nK W' L1)) : ST dd F w W' μ1 (L1 ++ L) := by
  have a := h.back j
  refine ⟨a.os, a.tape, a.output, a.drawn, a.size, a.eO, fun b o hm => ?_, fun b o d => ?_, a.nd⟩
  · have := i b o hm
    unfold nK at this
    split at this
    · cases this
    · exact this
  · obtain ⟨l, n, m⟩ := a.box b o d
    refine ⟨l, ?_, m⟩
    rcases List.mem_append.1 d with d | d
    · cases hm : μ1 b with
      | none => rfl
      | some x =>
        have := i b x hm
        unfold nK at this
        rw [if_pos ⟨o, d⟩] at this
        cases this
    · have g := h.box b o (List.mem_append_right _ d)
      rw [k b (gC g.1) (zn h.nd d)]
      exact g.2.1
variable {P : Program} {E : Nat → Value} {d : Option Nat} {ty : TypeId} {pos : String} {af : Array Edge} {g : Option (Nat × Bool)}
theorem AH {K : Value → World → Prop} {K' : Value → List (Nat × Obj) → bW → Prop} {f : FuncId} {fv : Operand} {ax : Array Operand} {ats : Array TypeId} {caps : Array Value} {args : List Value} (L0 L2 : List (Nat × Obj)) (a : ST dd F w W μ L) (i : L.Perm (L0 ++ L2)) (x : aS E fv = .func (.func f) #[] caps) (he : ∀ args w, (callFunc f args).run P w = .ok (.enter f args) w) (ha : ax.map (aS E) ++ (#[] : Array Value) = args.toArray) (u : yr L0 W → (L0.map (·.1)).Nodup → bO μ (nK W L0) → (∀ b o, (b, o) ∈ L2 → nK W L0 b = some o) → dR dd P f (args ++ caps.toList) W μ L0 K') (h : ∀ W' v μ' L1, ST dd F w W' μ' (L1 ++ L2) → bO μ μ' → Lo F w μ μ' → K' v L1 μ' → K v W') : fQ P E ⟨d, .call ⟨.value fv, ax, ats⟩, ty, pos, af, g⟩ W K := by
  have j : ax.map (aS E) = args.toArray := by simpa using ha
  refine zu (args := (args ++ caps.toList).toArray) x he (by rw [j]; simp) (Calls.mono (u (a.held i) (a.Li i) (a.KC i) (a.F2 i)) (fun _ W' ⟨v, L1, μ1, l, m, n, k, p, r⟩ => ⟨v, l, h W' v μ1 L1 ((a.perm i).Mc m k p) n (fun b t s => k b (Nat.lt_of_lt_of_le t a.size) (fun ⟨o, y⟩ => by
    rcases ((a.perm i).box b o (List.mem_append_left _ y)).2.2 with q | q
    · omega
    · exact s q)) r⟩))
end
end Go.Proofs.YtmlncblocfcmiaaGreat
namespace Go.Proofs.YtmlncblocfcmiaaGreat
open Go.RowKit
section
variable {P : Program} {E : Nat → Value} {W : World} {d : Option Nat} {ty : TypeId} {pos : String} {af : Array Edge} {g : Option (Nat × Bool)}
  {dd : Bool} {F : Nat → Prop} {w : World} {μ : bW} {L : List (Nat × Obj)}
def yR {α : Type} (a : Nat) (z : α) (n : Int) : Option (List α) := if 0 ≤ n ∧ (a : Int) * n ≤ 140737488355328 ∧ n ≤ (maxLen : Int) then some (List.replicate n.toNat z) else none
theorem Ce {α : Type} {enc : α → List Value} {k : Nat} (g : ∀ x, (enc x).length = k) (d : 0 < k) (z : α) (n : Nat) : (madeCells (enc z).toArray (n * k)).toList = ((List.replicate n z).map enc).flatten := by
  apply List.ext_getElem
  · rw [jo g, Array.length_toList, size_madeCells]; simp
  · intro i l q
    rw [Array.length_toList, size_madeCells] at l
    have r : i / k < n := by rw [Nat.div_lt_iff_lt_mul d]; exact l
    have m : i % k < (enc z).length := by rw [g]; exact Nat.mod_lt _ d
    have h := pS g (List.replicate n z) (i / k) z (by rw [List.getElem?b, if_pos r]) (i % k) _ (List.getElem?a m)
    rw [show i / k * k + i % k = i by rw [Nat.mul_comm]; exact Nat.div_add_mod i k] at h
    rw [List.getElem?a q] at h
    have p := Option.some.inj h
    rw [p]
    simp only [madeCells, Array.getElem_toList, Array.getElem_map, Array.getElem_range, List.size_toArray, g]
    rw [getElem!j _ _ (by simpa using m)]
    simp
theorem E6 {K : Value → World → Prop} {α : Type} {e t : TypeId} {enc : α → List Value} {k b : Nat} {j : Value} {n : Int} {m : IntKind} {z : α} {r : List α} {x y : Operand} {i : TypeInfo} (p : ST dd F w W μ L) (O : ∀ x, (enc x).length = k) (u : 0 < k) (R : P.underlying t = some (.slice e)) (M : P.info? e = some i) (Y : i.zero = some j) (v : i.size = k) (s : i.bytes = b) (J : j.cells = (enc z).toArray) (T : aS E x = .int m n) (U : aS E y = .int m n) (l : yR b z n = some r) (h : ∀ W' A R', ST dd F w W' μ (R' ++ L) → bG e enc k A r R' → K A W') : fQ P E ⟨d, .makeSlice t x y, ty, pos, af, g⟩ W K := by
  unfold yR at l
  split at l
  case isFalse => cases l
  a q
  cases l
  obtain ⟨D, Z, G⟩ := q
  subst v; subst s
  have I : n.toNat ≤ maxLen := by omega
  have Q := run_make (P := P) W t e i j R M Y m m n n D (Int.le_refl _) (by omega) (by simp only [maxLen] at G; omega)
  refine .inl ⟨.slice (some ⟨W.heap.size, 0, none⟩) n.toNat n.toNat, W.alloc (.cells (madeCells j.cells (n.toNat * i.size)) e), ?_, h _ _ [(W.heap.size, .cells (madeCells j.cells (n.toNat * i.size)) e)] (p.alloc _) ?_⟩
  · show (do pure (.value (← Instr.makeSlice t (aS E x) (aS E y))) : Sem Next).run P W = _
    rw [T, U]
    simp only [Sem.run_bind, Q, Result.andThen_ok, Sem.run_pure]
  · exact bG.lit (by rw [List.length_replicate]) I (by rw [J]; exact Ce O u z _) (by rw [size_madeCells])
end
theorem np.uu {κ γ : Type} {kenc : κ → Value} {Q : Value → γ → List (Nat × Obj) → Prop} {μ : bW} {v : Value} {l : List (κ × γ)} (h : np kenc Q μ v l) : v.oneCell' = true := by
  obtain ⟨a, R, h, _⟩ := h
  obtain ⟨m, rfl⟩ := h.form
  rfl
theorem pI.uu {κ β : Type} {kenc : κ → Value} {vf : β → Value} {μ : bW} {v : Value} {l : List (κ × β)} (h : pI kenc vf μ v l) : v.oneCell' = true := by
  obtain ⟨m, rfl⟩ := h.form
  rfl
end Go.Proofs.YtmlncblocfcmiaaGreat
