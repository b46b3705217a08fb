/- a part of a proof of KeysBack -/
import Derived.WalkKit
import Derived.WalkLawsBesides
import Derived.Maps.AppendAt
import Derived.OrdersHeld
import Derived.Laws.IdiomStrings
import Derived.Maps.RangeRun
import Derived.Lib.BytesEntry
import Derived.Lib.Bytealg
import Derived.Laws.Externs
import Derived.ChangeKeysEq
import Derived.Deep.AppendSrc
import Derived.Laws.MakeOwn
import Derived.Recover
import Derived.LaidEqlPtr
set_option linter.all false
namespace Go.Proofs.Ytcafmokjkjcomaa
open Go.RowKit
def aw := @Option.bind_some
def ay := @Bool.false_eq_true
def aA := @run_underlying
def aB := @List.mem_cons
def aD := @if_pos
def aF := @if_neg
def aG := @congrArg
def aH := @List.length_append
def aI := @List.getElem?_eq_some_iff
def aJ := @Result.andThen_ok
def aM := @Nat.le_refl
def aN := @List.mem_singleton
def aO := @List.append_assoc
def aP := @List.mem_map
def aQ := @if_false
def aR := @List.map_cons
def aS := @List.length_cons
def aT := @if_true
def aU := @Bool.and_eq_true
def aV := @List.mem_append
def aW := @List.mem_append_left
def aX := @Sem.run_bind
def bc := @List.not_mem_nil
def bd := @List.nodup_append
def bf := @List.map_append
def bi := @Calls.mono
def bk := @Nat.mul_le_mul_right
def bn := @Array.getD_eq_getD_getElem?
def bo := @List.length_nil
def bp := @Nat.add_mul
def bq := @Int.natCast_nonneg
def br := @List.getElem?_eq_getElem
def bt := @List.length_take
def bu := @List.drop_length
def bw := @List.cons_append
def bx := @beq_self_eq_true
def bz := @Array.length_toList
def bB := @Array.getElem?_toList
def bD := @Nat.le_trans
def bE := @List.flatten_cons
def bG := @Nat.lt_of_lt_of_le
def bH := @Array.getElem?_eq_some_iff
def bK := @List.cons.injEq
def bL := @Sem.run_pure
def bM := @List.size_toArray
def bN := @List.mem_append_right
def bO := @Nat.min_eq_left
def bP := @List.map_map
def bR := @List.length_eq_zero_iff
def bV := @Bool.not_true
def bW := @List.Perm.refl
def bX := @List.nodup_cons
def bY := @List.append_nil
def bZ := @Array.getElem?_modify
def cd := @List.getElem?_eq_none
def cg := @List.getElem?_drop
def cj := @Addr.add_lit
def cm := @List.eq_nil_of_length_eq_zero
def cn := @List.mem_cons_of_mem
def cq := @Oper.upon_value
def cr := @Oper.upon_enter
def ct := @List.nil_append
def cu := @List.take_of_length_le
def cw := @Nat.eq_zero_or_pos
def cx := @List.getElem?_take
def cy := @or_false
def cA := @Bool.eq_iff_iff
def cC := @List.ext_getElem?
def cD := @List.getElem?_map
def cE := @decide_eq_true_eq
def cH := @Int.toNat_natCast
def cI := @List.getElem?_take_of_lt
def cJ := @ByteArray.toList_eq
def cK := @Nat.lt_succ_self
def cL := @decide_eq_true
def cP := @List.pairwise_cons
def cQ := @List.length_map
def cR := @Bool.or_eq_true
def cT := @Array.getElem?_append
def cU := @List.getElem?_toArray
def cV := @List.getElem?_set
def cW := @of_decide_eq_true
def cY := @Oper.upon_skip
def cZ := @List.getElem?_append
def da := @List.getElem?_append_right
def db := @Nat.zero_le
def de := @List.getD_eq_getElem?_getD
def dg := @List.length_drop
def dm := @Nat.add_assoc
def dn := @Array.getElem?_replicate
def dp := @Bool.eq_false_or_eq_true
def dq := @wp_mono
def dr := @Option.map_some
def du := @List.pairwise_mergeSort
def dv := @decide_true
def dw := @List.take_take
def dx := @List.pairwise_map
def dz := @Nat.div_lt_iff_lt_mul
def dA := @List.perm_append_comm
def dB := @List.length_mergeSort
def dC := @List.perm_middle
def dD := @List.take_append
def dG := @List.pairwise_append
def dI := @List.length_set
def dK := @List.Perm.nodup_iff
def dL := @run_callFunc_extern
def dM := @List.map_congr_left
def dN := @List.take_length_add_append
def dO := @List.perm_append_comm_assoc
def dQ := @decide_false
def dR := @run_loadCells_list
def dS := @List.findIdx?_cons
def dT := @List.map_mergeSort
def dV := @UInt8.toNat_lt
def dW := @eq_iff_iff
def dX := @Bool.and_assoc
def dY := @cell_of_row
def dZ := @List.findIdx?_map
def ec := @Option.some.injEq
def ei := @UInt8.ofNat_toNat
def ej := @DataW.trod_struct
def ek := @ByteArray.ext
def eo := @Bool.not_eq_true
def ep := @Nat.add_comm
def er := @Nat.zero_add
def ez := @List.foldl_cons
def eC := @Nat.le_succ
def eE := @Nat.one_mul
def eG := @mem_ready
def gb (E : Nat → Value) (d : Nat) (v : Value) : Nat → Value := fun t => if t = d then v else E t
def eL (E : Nat → Value) : Operand → Value
 | .tmp t => E t
 | .const v => v
 | .global g => .pointer (some ⟨g, 0, none⟩)
 | .func f => .func (.func f) #[] #[]
def Ag (n : Nat) (a : Act) (E : Nat → Value) : Prop := a.tmps.size = n ∧ a.defers = [] ∧ ∀ t, a.tmps.getD t undef = E t
section
variable {n : Nat} {a : Act} {E : Nat → Value}
theorem Ag.eval (h : Ag n a E) : a.eval = eL E := by
 funext x
 cases x with
 | tmp t => exact h.2.2 t
 | const v => rfl
 | global g => rfl
 | func f => rfl
theorem Ag.put (h : Ag n a E) {d : Nat} (i : d < n) (v : Value) : Ag n (a.put (some d) v) (gb E d v) := by
 refine ⟨by simp [Act.put, h.1], h.2.1, fun t => ?_⟩
 have g := h.2.2 t
 simp only [Act.put, gb]
 by_cases c : t = d
 ·subst c
  simp [h.1, i]
 ·have : ¬ d = t := fun e => c e.symm
  rw [aF c, ← g]
  simp [bn, this]
theorem Ag.kv (h : Ag n a E) (v : Value) : Ag n (a.put none v) E := h
theorem Ag.yield (h : Ag n a E) {ops : Array Oper} {j t : Nat} {b : Bool} (d : (ops[j]?).bind (·.dst) = some t) (i : t < n) (k : E t = .bool b) : yielded ops a.tmps j = some b := by
 have c := h.2.2 t
 have g : a.tmps[t]? = some (E t) := by
  rw [← c]
  simp [bn, h.1, i]
 simp [yielded, d, g, k]
end
abbrev gn := Exit → (Nat → Value) → World → Prop
def E0 : Nat → Value := fun _ => undef
def lift (n : Nat) (Q : gn) : Exit → Act → World → Prop
 | .panic c, a, w => a.defers = [] ∧ Q (.panic c) E0 w
 | .outgrown, _, _ => False
 | e, a, w => ∃ E, Ag n a E ∧ Q e E w
theorem ur {n : Nat} {Q : gn} {c : List PanicEntry} {a : Act} {d : Option Nat} {v : Value} {w : World} (h : lift n Q (.panic c) (a.put d v) w) : lift n Q (.panic c) a w := by
 cases d <;> exact h
def CW (P : Program) (n : Nat) (c : Code) (Q : gn) (E : Nat → Value) (W : World) : Prop := ∀ a, Ag n a E → c.wp P (lift n Q) a W
def LW (P : Program) (n : Nat) (ops : Array Oper) (Q : gn) (l : List Oper) (E : Nat → Value) (W : World) : Prop := ∀ a, Ag n a E → wpList P ops (lift n Q) l a W
def gS (K : (Nat → Value) → World → Prop) (Q : gn) : gn
 | .normal, E, W => K E W
 | e, E, W => Q e E W
def lc (id : Nat) (Q : gn) : gn
 | .exit j, E, W => if j = id then Q .normal E W else Q (.exit j) E W
 | e, E, W => Q e E W
section
variable {P : Program} {n : Nat} {Q : gn} {E : Nat → Value} {W : World} {c x y : Code} {ops : Array Oper} {rest : List Oper} {o : Oper}
theorem sA {Q' : gn} (h : CW P n c Q E W) (i : ∀ e E W, Q e E W → Q' e E W) : CW P n c Q' E W := fun a j =>
 dq (h a j) (fun e _ _ h => by
  cases e with
  | panic c => exact ⟨h.1, i _ _ _ h.2⟩
  | outgrown => exact h
  | _ => obtain ⟨E', d, g⟩ := h; exact ⟨E', d, i _ _ _ g⟩)
theorem fm (h : CW P n x (gS (fun E W => CW P n y Q E W) Q) E W) : CW P n (.seq x y) Q E W := fun a g =>
 wp_seq (dq (h a g) (fun e d j h => by
  cases e with
  | normal => obtain ⟨E', c, i⟩ := h; exact i d c
  | _ => exact h))
theorem gH (h : Q .normal E W) : CW P n .skip Q E W := fun _ a => wp_skip ⟨E, a, h⟩
theorem gq (h : Q .ret E W) : CW P n .ret Q E W := fun _ a => wp_ret ⟨E, a, h⟩
theorem nU {id : Nat} (h : Q (.exit id) E W) : CW P n (.exit id) Q E W := fun _ a => wp_exit ⟨E, a, h⟩
theorem kq {id : Nat} (h : CW P n c (lc id Q) E W) : CW P n (.block id c) Q E W := fun a k =>
 wp_block (dq (h a k) (fun e o p h => by
  cases e with
  | exit j =>
   obtain ⟨E', d, g⟩ := h
   simp only [Exit.inBlock]
   simp only [lc] at g
   split at g
   ·rename_i i; rw [aD i]; exact ⟨E', d, g⟩
   ·rename_i i; rw [aF i]; exact ⟨E', d, g⟩
  | _ => exact h))
theorem vH {co : Operand} {b : Bool} (d : eL E co = .bool b) (i : b = true → CW P n x Q E W) (g : b = false → CW P n y Q E W) : CW P n (.cond co x y) Q E W := fun a c => by
 refine wp_cond_split (t := b) (by rw [c.eval]; exact d) (fun h => i h a c) (fun h => g h a c)
theorem nO {co : Operand} (a : eL E co = .bool true) (h : CW P n x Q E W) : CW P n (.cond co x y) Q E W := vH a (fun _ => h) (fun h => by cases h)
theorem jD {co : Operand} (a : eL E co = .bool false) (h : CW P n y Q E W) : CW P n (.cond co x y) Q E W := vH a (fun h => by cases h) (fun _ => h)
theorem eW {id : Nat} {l : List Oper} (h : LW P n l.toArray Q l E W) : CW P n (.region id l.toArray false) Q E W := fun a c => wp_region_lit (h a c)
theorem fB (h : Q .normal E W) : LW P n ops Q [] E W := fun _ a => wpList_nil ⟨E, a, h⟩
theorem tq {P : Program} {c : Code} {Q : Exit → Act → World → Prop} {a : Act} {w : World} (I : Nat → Act → World → Prop) (m : Nat) (u : I m a w) (round : ∀ m a w, I m a w → c.wp P (Exit.then (fun p q => ∃ y, y < m ∧ I y p q) Q) a w) : (Code.loop c).wp P Q a w := by
 intro b k cs
 have key : ∀ m a w, I m a w → ∃ e p q, Q e p q ∧ Arrives P (lone (b.at a (.code c :: .inLoop c :: k)) cs w) b k cs e p q := by
  intro m
  induction m using Nat.strongRecOn with
  | _ m ih =>
   intro a w A
   obtain ⟨e, g, h, j, d⟩ := round m a w A b (.inLoop c :: k) cs
   cases e with
   | normal =>
    obtain ⟨y, z, n⟩ := j
    obtain ⟨t, s, v, o, i⟩ := ih y z g h n
    exact ⟨t, s, v, o, .of_steps (Steps.trans d (.one step_inLoop)) i⟩
   | exit id => exact ⟨_, g, h, j, .pass (x := .inLoop c) rfl (fun _ _ => .inl (by simp)) d⟩
   | goto l => exact ⟨_, g, h, j, .pass (x := .inLoop c) rfl (fun _ _ => .inl (by simp)) d⟩
   | ret => exact ⟨_, g, h, j, .pass (x := .inLoop c) rfl (fun _ _ => .inl (by simp)) d⟩
   | panic D => exact ⟨_, g, h, j, .pass (x := .inLoop c) rfl (fun _ _ => .inl (by simp)) d⟩
   | outgrown => exact ⟨_, g, h, j, .pass (x := .inLoop c) rfl (fun _ _ => .inl (by simp)) d⟩
 obtain ⟨e, p, q, j, d⟩ := key m a w u
 exact ⟨e, p, q, j, .of_steps (.one step_loop) d⟩
theorem nV (I : Nat → (Nat → Value) → World → Prop) (m : Nat) (d : I m E W) (round : ∀ m E W, I m E W → CW P n c (gS (fun E' W' => ∃ g, g < m ∧ I g E' W') Q) E W) : CW P n (.loop c) Q E W := fun a j =>
 tq (fun m a w => ∃ E, Ag n a E ∧ I m E w) m ⟨E, j, d⟩ (fun m a w ⟨E, j, p⟩ =>
  dq (round m E w p a j) (fun e q s h => by
   cases e with
   | normal => obtain ⟨E', k, g, o, i⟩ := h; exact ⟨g, o, E', k, i⟩
   | _ => exact h))
def gE (n : Nat) (ops : Array Oper) (E : Nat → Value) (o : Oper) : Prop :=
 o.guard = none ∨ ∃ j want t, o.guard = some (j, want) ∧ (ops[j]?).bind (·.dst) = some t ∧ t < n ∧ E t = .bool want
theorem gE.of {a : Act} (h : gE n ops E o) (d : Ag n a E) : Region.wanted o (yielded ops a.tmps) = true := by
 rcases h with h | ⟨j, want, t, g, i, k, c⟩
 ·simp [Region.wanted, h]
 ·simp [Region.wanted, g, d.yield i k c]
theorem wN {d : Nat} {v : Value} {W' : World} (hw : gE n ops E o) (g : o.dst = some d) (i : d < n) (j : (execOp (eL E) o).run P W = .ok (.value v) W') (h : LW P n ops Q rest (gb E d v) W') : LW P n ops Q (o :: rest) E W := fun a c => by
 unfold wpList
 rw [aD (hw.of c)]
 refine .inl ?_
 unfold Oper.wp
 rw [c.eval, j, cq, g]
 exact h _ (c.put i v)
theorem xT {W' : World} (hw : gE n ops E o) (d : o.dst = none) (g : (execOp (eL E) o).run P W = .ok .skip W') (h : LW P n ops Q rest E W') : LW P n ops Q (o :: rest) E W := fun a c => by
 unfold wpList
 rw [aD (hw.of c)]
 refine .inl ?_
 unfold Oper.wp
 rw [c.eval, g, cY, d]
 exact h _ (c.kv _)
theorem xL {f : FuncId} {args : Array Value} {d : Nat} (hw : gE n ops E o) (i : o.dst = some d) (k : d < n) (p : (execOp (eL E) o).run P W = .ok (.enter f args) W) (h : Calls P f args W fun e g => ∃ v, e = .returned v ∧ LW P n ops Q rest (gb E d v) g) : LW P n ops Q (o :: rest) E W := fun a c => by
 unfold wpList
 rw [aD (hw.of c)]
 refine .inl ?_
 unfold Oper.wp
 rw [c.eval, p, cr]
 refine h.mono ?_
 rintro e g ⟨v, rfl, j⟩
 simp only [i]
 exact j _ (c.put k v)
theorem Ao {d j t : Nat} {want : Bool} (i : o.dst = some d) (q : d < n) (k : o.guard = some (j, want)) (p : (ops[j]?).bind (·.dst) = some t) (s : t < n) (g : E t = .bool (!want)) (h : LW P n ops Q rest (gb E d undef) W) : LW P n ops Q (o :: rest) E W := fun a c => by
 unfold wpList
 have u := c.yield p s g
 rw [aF (by simp [Region.wanted, k, u])]
 rw [i]
 exact h _ (c.put q _)
end
variable {dd : Bool}
abbrev eV := Nat → Option Obj
def hp (W : World) : eV := fun b => W.heap[b]?
def jT (dd : Bool) (a b : Nat) : Prop := dd = true → a ≤ b
theorem jT.of {dd : Bool} {a b : Nat} (h : a ≤ b) : jT dd a b := fun _ => h
theorem jT.trans {dd : Bool} {a b c : Nat} (h : jT dd a b) (k : jT dd b c) : jT dd a c := fun e => bD (h e) (k e)
structure Ex (dd : Bool) (w W : World) : Prop where
 os : W.os = w.os
 tape : W.tape = w.tape
 output : W.output = w.output
 drawn : jT dd w.drawn W.drawn
 size : w.heap.size ≤ W.heap.size
 jl : ∀ b, b < w.heap.size → W.heap[b]? = w.heap[b]?
theorem Ex.refl (w : World) : Ex dd w w := ⟨rfl, rfl, rfl, jT.of (aM _), aM _, fun _ _ => rfl⟩
theorem Ex.trans {a b c : World} (h : Ex dd a b) (k : Ex dd b c) : Ex dd a c :=
 ⟨k.os.trans h.os, k.tape.trans h.tape, k.output.trans h.output, jT.trans h.drawn k.drawn, bD h.size k.size, fun i d => (k.jl i (bG d h.size)).trans (h.jl i d)⟩
theorem Ex.drew (w : World) : Ex dd w w.drew := ⟨rfl, rfl, rfl, jT.of (eC _), aM _, fun _ _ => rfl⟩
theorem Ex.alloc (w : World) (o : Obj) : Ex dd w (w.alloc o) := ⟨rfl, rfl, rfl, jT.of (aM _), by show w.heap.size ≤ (w.heap.push o).size; simp, fun k hk => Below.heap_alloc w o k hk⟩
theorem Ex.gz {w W : World} (h : Ex true w W) : Ex dd w W := ⟨h.os, h.tape, h.output, jT.of (h.drawn rfl), h.size, h.jl⟩
def eT (μ μ' : eV) : Prop := ∀ b o, μ b = some o → μ' b = some o
theorem eT.refl (μ : eV) : eT μ μ := fun _ _ h => h
theorem eT.trans {a b c : eV} (h : eT a b) (k : eT b c) : eT a c := fun x o d => k x o (h x o d)
structure ST (dd : Bool) (F : Nat → Prop) (w W : World) (μ : eV) (L : List (Nat × Obj)) : Prop where
 os : W.os = w.os
 tape : W.tape = w.tape
 output : W.output = w.output
 drawn : jT dd w.drawn W.drawn
 size : w.heap.size ≤ W.heap.size
 jl : ∀ b, b < w.heap.size → ¬ F b → W.heap[b]? = w.heap[b]?
 mem : ∀ b o, μ b = some o → W.heap[b]? = some o
 box : ∀ b o, (b, o) ∈ L → W.heap[b]? = some o ∧ μ b = none ∧ (w.heap.size ≤ b ∨ F b)
 nd : (L.map (·.1)).Nodup
def fY : Nat → Prop := fun _ => False
theorem ST.start (w : World) : ST dd fY w w (hp w) [] :=
 ⟨rfl, rfl, rfl, jT.of (aM _), aM _, fun _ _ _ => rfl, fun _ _ h => h, fun _ _ h => (by cases h), by simp⟩
section
variable {F : Nat → Prop} {w W W' : World} {μ μ' : eV} {L L' : List (Nat × Obj)}
theorem ST.ex (h : ST dd fY w W μ L) : Ex dd w W := ⟨h.os, h.tape, h.output, h.drawn, h.size, fun b a => h.jl b a (fun x => x)⟩
theorem ya (W : World) (o : Obj) : (W.alloc o).heap[W.heap.size]? = some o := heap_alloc_new W o
theorem gj {W : World} {b : Nat} {o : Obj} (h : W.heap[b]? = some o) : b < W.heap.size := (bH.1 h).1
theorem ST.drew (h : ST dd F w W μ L) : ST dd F w W.drew μ L :=
 ⟨h.os, h.tape, h.output, jT.trans h.drawn (jT.of (eC _)), h.size, h.jl, h.mem, h.box, h.nd⟩
theorem ST.rJ (h : ST dd F w W μ L) {b : Nat} {o : Obj} (a : (b, o) ∈ L) : b < W.heap.size := gj (h.box b o a).1
theorem ST.alloc (h : ST dd F w W μ L) (o : Obj) : ST dd F w (W.alloc o) μ ((W.heap.size, o) :: L) := by
 refine ⟨h.os, h.tape, h.output, h.drawn, bD h.size (Ex.alloc (dd := true) W o).size, fun b a i => ?_, fun b c a => ?_, fun b c a => ?_, ?_⟩
 ·rw [(Ex.alloc (dd := true) W o).jl b (bG a h.size)]; exact h.jl b a i
 ·have := h.mem b c a
  rw [(Ex.alloc (dd := true) W o).jl b (gj this)]; exact this
 ·rcases aB.1 a with e | a
  ·cases e
   refine ⟨ya W o, ?_, .inl h.size⟩
   cases hm : μ W.heap.size with
   | none => rfl
   | some x => have := gj (h.mem _ _ hm); omega
  ·obtain ⟨h1, d, g⟩ := h.box b c a
   exact ⟨by rw [(Ex.alloc (dd := true) W o).jl b (gj h1)]; exact h1, d, g⟩
 ·simp only [aR, bX]
  refine ⟨fun hm => ?_, h.nd⟩
  obtain ⟨⟨b, c⟩, a, e⟩ := aP.1 hm
  have := h.rJ a
  simp at e
  omega
theorem ST.put {A B : List (Nat × Obj)} {b : Nat} {o p : Obj} (h : ST dd F w W μ (A ++ (b, o) :: B)) (v : W'.os = W.os ∧ W'.tape = W.tape ∧ W'.output = W.output ∧ W.drawn ≤ W'.drawn ∧ W'.heap.size = W.heap.size) (d : ∀ k, k ≠ b → W'.heap[k]? = W.heap[k]?) (y : W'.heap[b]? = some p) : ST dd F w W' μ (A ++ (b, p) :: B) := by
 obtain ⟨h1, q, s, t, u⟩ := v
 have c := h.box b o (by simp)
 have a := h.nd
 simp only [bf, aR] at a
 have g : ∀ x o, (x, o) ∈ A → x ≠ b := fun x o j e => by
  subst e
  have := (bd.1 a).2.2 x (aP.2 ⟨_, j, rfl⟩) x (by simp)
  exact this rfl
 have i : ∀ x o, (x, o) ∈ B → x ≠ b := fun x o j e => by
  subst e
  have := (bX.1 (bd.1 a).2.1).1
  exact this (aP.2 ⟨_, j, rfl⟩)
 refine ⟨h1.trans h.os, q.trans h.tape, s.trans h.output, jT.trans h.drawn (jT.of t), by rw [u]; exact h.size, fun k hk n => ?_, fun k x hk => ?_, fun k x hk => ?_, by simpa using a⟩
 ·rw [d k (fun e => by subst e; rcases c.2.2 with h | h; omega; exact n h)]
  exact h.jl k hk n
 ·rw [d k (fun e => by subst e; rw [c.2.1] at hk; cases hk)]
  exact h.mem k x hk
 ·rcases aV.1 hk with hk | hk
  ·rw [d k (g k x hk)]; exact h.box k x (by simp [hk])
  ·rcases aB.1 hk with e | hk
   ·cases e; exact ⟨y, c.2⟩
   ·rw [d k (i k x hk)]; exact h.box k x (by simp [hk])
def Lo (F : Nat → Prop) (w : World) (μ μ' : eV) : Prop := ∀ b, b < w.heap.size → ¬ F b → μ' b = μ b
theorem Lo.refl {F : Nat → Prop} {w : World} {μ : eV} : Lo F w μ μ := fun _ _ _ => rfl
theorem Lo.trans {F : Nat → Prop} {w : World} {a b c : eV} (h : Lo F w a b) (k : Lo F w b c) : Lo F w a c := fun x g d => (k x g d).trans (h x g d)
def grow (μ : eV) (W W' : World) : eV := fun b => if b < W.heap.size then μ b else W'.heap[b]?
theorem ST.qz (h : ST dd F w W μ L) {b : Nat} {o : Obj} (a : μ b = some o) : b < W.heap.size := gj (h.mem b o a)
theorem ST.call (h : ST dd F w W μ L) (c : Ex dd W W') : ST dd F w W' (grow μ W W') L := by
 refine ⟨c.os.trans h.os, c.tape.trans h.tape, c.output.trans h.output, jT.trans h.drawn c.drawn, bD h.size c.size, fun b a j => ?_, fun b o a => ?_, fun b o a => ?_, h.nd⟩
 ·rw [c.jl b (bG a h.size)]; exact h.jl b a j
 ·unfold grow at a
  split at a
  ·rename_i d; rw [c.jl b d]; exact h.mem b o a
  ·exact a
 ·obtain ⟨h1, g, i⟩ := h.box b o a
  exact ⟨by rw [c.jl b (gj h1)]; exact h1, by unfold grow; rw [aD (gj h1)]; exact g, i⟩
theorem ST.xB (h : ST dd F w W μ L) (W' : World) : eT μ (grow μ W W') := fun b o a => by
 unfold grow; rw [aD (h.qz a)]; exact a
theorem ST.gz (h : ST dd F w W μ' L) (c : eT μ μ') : ST dd F w W μ L :=
 ⟨h.os, h.tape, h.output, h.drawn, h.size, h.jl, fun b o a => h.mem b o (c b o a), fun b o a => by
  obtain ⟨h1, d, g⟩ := h.box b o a
  refine ⟨h1, ?_, g⟩
  cases hm : μ b with
  | none => rfl
  | some x => (have := c b x hm; rw [d] at this; cases this), h.nd⟩
theorem ST.wh (h : ST dd F w W μ L) (a : Ex dd W W') : ST dd F w W' μ L := (h.call a).gz (h.xB W')
theorem ST.fw (h : ST dd F w W μ L) : eT μ (hp W) := h.mem
def vi (μ : eV) (b : Nat) (o : Obj) : eV := fun k => if k = b then some o else μ k
theorem ST.qC {A B : List (Nat × Obj)} {b : Nat} {o : Obj} (h : ST dd F w W μ (A ++ (b, o) :: B)) : ST dd F w W (vi μ b o) (A ++ B) := by
 have d := h.box b o (by simp)
 have a := h.nd
 simp only [bf, aR] at a
 have i : ∀ x y, (x, y) ∈ A ++ B → x ≠ b := fun x y c e => by
  subst e
  rcases aV.1 c with c | c
  ·exact (bd.1 a).2.2 x (aP.2 ⟨_, c, rfl⟩) x (by simp) rfl
  ·exact (bX.1 (bd.1 a).2.1).1 (aP.2 ⟨_, c, rfl⟩)
 refine ⟨h.os, h.tape, h.output, h.drawn, h.size, h.jl, fun k x hk => ?_, fun k x hk => ?_, ?_⟩
 ·unfold vi at hk
  split at hk
  ·rename_i e; cases hk; rw [e]; exact d.1
  ·exact h.mem k x hk
 ·have g : (k, x) ∈ A ++ (b, o) :: B := by
   rcases aV.1 hk with h | h <;> simp [h]
  obtain ⟨h1, j, n⟩ := h.box k x g
  exact ⟨h1, by unfold vi; rw [aF (i k x hk)]; exact j, n⟩
 ·have : (A ++ B).Sublist (A ++ (b, o) :: B) := List.Sublist.append (List.Sublist.refl A) (List.sublist_cons_self _ _)
  exact List.Nodup.sublist (this.map _) h.nd
theorem ST.qy {A B : List (Nat × Obj)} {b : Nat} {o : Obj} (h : ST dd F w W μ (A ++ (b, o) :: B)) : eT μ (vi μ b o) := fun k x hk => by
 unfold vi
 split
 ·rename_i e; subst e; rw [(h.box k o (by simp)).2.1] at hk; cases hk
 ·exact hk
theorem ST.uo {A B : List (Nat × Obj)} {b : Nat} {o : Obj} (h : ST dd F w W μ (A ++ (b, o) :: B)) : Lo F w μ (vi μ b o) := fun k hk c => by
 refine aF (fun e => ?_)
 subst e
 rcases (h.box k o (by simp)).2.2 with a | a
 ·omega
 ·exact c a
theorem ST.drop {A B : List (Nat × Obj)} {p : Nat × Obj} (h : ST dd F w W μ (A ++ p :: B)) : ST dd F w W μ (A ++ B) :=
 (h.qC (b := p.1) (o := p.2)).gz h.qy
end
abbrev jg (α : Type) := eV → List Value → α → Prop
def Sl {α : Type} (R : jg α) (k : Nat) (μ : eV) (v : Value) (l : List α) : Prop :=
 ∃ A c, v = .slice A l.length c ∧ l.length ≤ c ∧ c ≤ maxLen ∧ (0 < l.length → ∃ b off cs T fr, A = some ⟨b, off, none⟩ ∧ μ b = some (.cells cs T fr) ∧
  ∀ i x, l[i]? = some x → ∃ ys, ys.length = k ∧ R μ ys x ∧ ∀ j y, ys[j]? = some y → cs[off + i * k + j]? = some y)
def At (μ : eV) (v : Value) (ys : List Value) : Prop :=
 ∃ b off cs T fr, v = .pointer (some ⟨b, off, none⟩) ∧ μ b = some (.cells cs T fr) ∧ ∀ j y, ys[j]? = some y → cs[off + j]? = some y
def Fr (B : Nat) (v : Value) : Prop := ∀ b, v.ownBlock = some b → B ≤ b
def tz {α : Type} (R : jg α) : Prop := ∀ μ μ' ys x, eT μ μ' → R μ ys x → R μ' ys x
def Pl {α : Type} (enc : α → List Value) : jg α := fun _ ys x => ys = enc x
theorem Pl.mono {α : Type} (enc : α → List Value) : tz (Pl enc) := fun _ _ _ _ _ h => h
theorem Sl.mono {α : Type} {R : jg α} (u : tz R) {k : Nat} {μ μ' : eV} {v : Value} {l : List α} (h : Sl R k μ v l) (d : eT μ μ') : Sl R k μ' v l := by
 obtain ⟨A, c, h1, g, j, n⟩ := h
 refine ⟨A, c, h1, g, j, fun w => ?_⟩
 obtain ⟨b, off, cs, T, fr, o, p, q⟩ := n w
 exact ⟨b, off, cs, T, fr, o, d _ _ p, fun i x y => let ⟨ys, s, t, a⟩ := q i x y; ⟨ys, s, u _ _ _ _ d t, a⟩⟩
theorem At.mono {μ μ' : eV} {v : Value} {ys : List Value} (h : At μ v ys) (d : eT μ μ') : At μ' v ys := by
 obtain ⟨b, off, cs, T, fr, h1, a, c⟩ := h
 exact ⟨b, off, cs, T, fr, h1, d _ _ a, c⟩
theorem Sl.len {α : Type} {R : jg α} {k : Nat} {μ : eV} {v : Value} {l : List α} (h : Sl R k μ v l) : l.length ≤ 9223372036854775807 := by
 obtain ⟨A, c, h1, d, a, g⟩ := h
 unfold maxLen at a
 omega
theorem Sl.nil {α : Type} (R : jg α) (k : Nat) (μ : eV) : Sl R k μ (.slice none 0 0) [] := ⟨none, 0, rfl, aM _, by decide, fun h => absurd h (by simp)⟩
theorem Fr.mono {B B' : Nat} {v : Value} (h : Fr B v) (a : B' ≤ B) : Fr B' v := fun b c => bD a (h b c)
theorem Fr.nil (B : Nat) : Fr B (.slice none 0 0) := fun b a => by simp [Value.ownBlock] at a
end Go.Proofs.Ytcafmokjkjcomaa
namespace Go.Proofs.Ytcafmokjkjcomaa
open Go.RowKit
variable {dd : Bool}
section
variable {P : Program} {n : Nat} {Q : gn} {E : Nat → Value} {W : World} {ops : Array Oper} {rest : List Oper}
 {d : Option Nat} {ty : TypeId} {pos : String} {af : Array Edge} {g : Option (Nat × Bool)}
 {F : Nat → Prop} {w : World} {μ : eV} {L : List (Nat × Obj)}
def fC (P : Program) (E : Nat → Value) (o : Oper) (W : World) (v : Value) (W' : World) : Prop := (execOp (eL E) o).run P W = .ok (.value v) W'
theorem sM {o : Oper} {dd : Nat} {v : Value} (hw : gE n ops E o) (a : o.dst = some dd) (c : dd < n) (d : fC P E o W v W) (h : LW P n ops Q rest (gb E dd v) W) : LW P n ops Q (o :: rest) E W := wN hw a c d h
theorem eZ {x : Operand} {v : Value} (a : eL E x = v) : fC P E ⟨d, .move x, ty, pos, af, g⟩ W v W := by rw [← a]; rfl
theorem fO {x : Operand} {v : Value} (a : eL E x = v) : fC P E ⟨d, .assign x, ty, pos, af, g⟩ W v W := by rw [← a]; rfl
theorem ft {c x y : Operand} {v : Value} (a : eL E c = .bool true) (h : eL E x = v) : fC P E ⟨d, .pick c x y, ty, pos, af, g⟩ W v W := by
 show (do pure (.value (if ← asBool (eL E c) then eL E x else eL E y)) : Sem Next).run P W = _
 rw [a, ← h]; simp [asBool]
theorem fq {c x y : Operand} {v : Value} (a : eL E c = .bool false) (h : eL E y = v) : fC P E ⟨d, .pick c x y, ty, pos, af, g⟩ W v W := by
 show (do pure (.value (if ← asBool (eL E c) then eL E x else eL E y)) : Sem Next).run P W = _
 rw [a, ← h]; simp [asBool]
theorem iv {x : Operand} {i : Nat} {vs : Array Value} {v : Value} (c : eL E x = .tuple vs) (a : vs[i]? = some v) : fC P E ⟨d, .extract x i, ty, pos, af, g⟩ W v W := by
 show (do pure (.value (← Instr.extract (eL E x) i)) : Sem Next).run P W = _
 rw [c]; simp [Instr.extract, a]
theorem ly {u : TypeId} {x : Operand} {b : Bool} (a : eL E x = .bool b) : fC P E ⟨d, .unOp .not u x, ty, pos, af, g⟩ W (.bool !b) W := by
 show (do pure (.value (← Op.unary .not (eL E x))) : Sem Next).run P W = _
 rw [a]; simp [Op.unary]
theorem vW {fn : Fn} {first caps : Array Operand} {v : Value} (a : .func fn (first.map (eL E)) (caps.map (eL E)) = v) : fC P E ⟨d, .makeFunc fn first caps, ty, pos, af, g⟩ W v W := by
 show (do pure (.value (← Instr.makeFunc fn (first.map (eL E)) (caps.map (eL E)))) : Sem Next).run P W = _
 rw [← a]; simp [Instr.makeFunc]
def tw (k : IntKind) (op : BinOp) (a b : Int) : Option Value :=
 match op with
 | .eql => some (.bool (a == b))
 | .neq => some (.bool (a != b))
 | .lss => some (.bool (decide (a < b)))
 | .leq => some (.bool (decide (a ≤ b)))
 | .gtr => some (.bool (decide (a > b)))
 | .geq => some (.bool (decide (a ≥ b)))
 | .add => some (.int k (k.wrap (a + b)))
 | .sub => some (.int k (k.wrap (a - b)))
 | .mul => some (.int k (k.wrap (a * b)))
 | _ => none
theorem gi {op : BinOp} {tx tv : TypeId} {x y : Operand} {k : IntKind} {a b : Int} {v : Value} (h : eL E x = .int k a) (i : eL E y = .int k b) (c : tw k op a b = some v) :
  fC P E ⟨d, .binOp op tx x y tv, ty, pos, af, g⟩ W v W := by
 show (do let r ← (do eqGuard op tx x y (eL E x) (eL E y); binOp op tx (eL E x) (eL E y)); pure (.value r) : Sem Next).run P W = _
 rw [h, i]
 cases op <;> simp [tw] at c <;> subst c <;> simp [eqGuard, binOp, Op.intCmp, Op.intArith]
def yC (op : BinOp) (a b : ByteArray) : Option Value :=
 match op with
 | .eql => some (.bool (a.toList == b.toList))
 | .neq => some (.bool !(a.toList == b.toList))
 | .lss => some (.bool (Op.bytesLess a.toList b.toList))
 | .leq => some (.bool (Op.bytesLess a.toList b.toList || a.toList == b.toList))
 | .gtr => some (.bool !(Op.bytesLess a.toList b.toList || a.toList == b.toList))
 | .geq => some (.bool !(Op.bytesLess a.toList b.toList))
 | _ => none
def mB (a b : ByteArray) : Option ByteArray := if ((a.size + b.size : Nat) : Int) > IntKind.i64.max then none else some (a ++ b)
theorem wi {op : BinOp} {tx tv : TypeId} {x y : Operand} {a b : ByteArray} {v : Value} (h : eL E x = .string a) (i : eL E y = .string b) (c : yC op a b = some v) :
  fC P E ⟨d, .binOp op tx x y tv, ty, pos, af, g⟩ W v W := by
 show (do let r ← (do eqGuard op tx x y (eL E x) (eL E y); binOp op tx (eL E x) (eL E y)); pure (.value r) : Sem Next).run P W = _
 rw [h, i]
 cases op <;> simp [yC] at c <;> subst c <;> simp [eqGuard, binOp, Op.stringOp]
theorem tC {tx tv : TypeId} {x y : Operand} {a b : Array Value} {r : Bool} (i : eL E x = .agg a) (j : eL E y = .agg b) (c : ∀ W, (eqGuard .eql tx x y (.agg a) (.agg b)).run P W = .ok () W) (h : ∀ W, (binOp .eql tx (.agg a) (.agg b)).run P W = .ok (.bool r) W) : fC P E ⟨d, .binOp .eql tx x y tv, ty, pos, af, g⟩ W (.bool r) W := by
 show (do let r ← (do eqGuard .eql tx x y (eL E x) (eL E y); binOp .eql tx (eL E x) (eL E y)); pure (.value r) : Sem Next).run P W = _
 rw [i, j]; simp [c W, h W]
theorem AB {tx tv : TypeId} {x y : Operand} {a b : Array Value} {r : Bool} (i : eL E x = .agg a) (j : eL E y = .agg b) (c : ∀ W, (eqGuard .neq tx x y (.agg a) (.agg b)).run P W = .ok () W) (h : ∀ W, (binOp .neq tx (.agg a) (.agg b)).run P W = .ok (.bool r) W) : fC P E ⟨d, .binOp .neq tx x y tv, ty, pos, af, g⟩ W (.bool r) W := by
 show (do let r ← (do eqGuard .neq tx x y (eL E x) (eL E y); binOp .neq tx (eL E x) (eL E y)); pure (.value r) : Sem Next).run P W = _
 rw [i, j]; simp [c W, h W]
theorem oC {t e : TypeId} (dd : Nat) (c : P.underlying t = some (.pointer e)) (a : Option Addr) (W : World) : (Op.equalIn (dd + 1) t (.pointer a) (.pointer none)).run P W = .ok a.isNone W := by
 cases a <;> simp [Op.equalIn, aA c]
theorem jB {tx tv e : TypeId} {x y : Operand} {a : Option Addr} (h : P.underlying tx = some (.pointer e)) (i : eL E x = .pointer a) (j : eL E y = .pointer none) :
  fC P E ⟨d, .binOp .eql tx x y tv, ty, pos, af, g⟩ W (.bool a.isNone) W := by
 show (do let r ← (do eqGuard .eql tx x y (eL E x) (eL E y); binOp .eql tx (eL E x) (eL E y)); pure (.value r) : Sem Next).run P W = _
 rw [i, j]
 have c := oC 9999 h a W
 simp [eqGuard, binOp, Op.equal, show Op.maxDepth = 9999 + 1 from rfl, c]
theorem pJ {tx tv e : TypeId} {x y : Operand} {a : Option Addr} (h : P.underlying tx = some (.pointer e)) (i : eL E x = .pointer a) (j : eL E y = .pointer none) :
  fC P E ⟨d, .binOp .neq tx x y tv, ty, pos, af, g⟩ W (.bool !a.isNone) W := by
 show (do let r ← (do eqGuard .neq tx x y (eL E x) (eL E y); binOp .neq tx (eL E x) (eL E y)); pure (.value r) : Sem Next).run P W = _
 rw [i, j]
 have c := oC 9999 h a W
 simp [eqGuard, binOp, Op.equal, show Op.maxDepth = 9999 + 1 from rfl, c]
theorem jK {x : Operand} {t : TypeId} {s : ByteArray} (a : P.underlying t = some .string) (c : eL E x = .string s) : fC P E ⟨d, .call ⟨.builtin .len, #[x], #[t]⟩, ty, pos, af, g⟩ W (.int .i64 s.size) W := by
 show (do let d ← resolve (eL E) ⟨.builtin .len, #[x], #[t]⟩ ty; invoke d.target d.args : Sem Next).run P W = _
 simp [resolve, invoke, builtin, Builtin.len_, aA a, c, goInt]
theorem sI {x : Operand} {t e : TypeId} {A : Option Addr} {l c : Nat} (a : P.underlying t = some (.slice e)) (h : eL E x = .slice A l c) : fC P E ⟨d, .call ⟨.builtin .len, #[x], #[t]⟩, ty, pos, af, g⟩ W (.int .i64 l) W := by
 show (do let d ← resolve (eL E) ⟨.builtin .len, #[x], #[t]⟩ ty; invoke d.target d.args : Sem Next).run P W = _
 simp [resolve, invoke, builtin, Builtin.len_, aA a, h, goInt]
theorem gX {α : Type} {R : jg α} {k : Nat} {m : eV} {x : Operand} {t e : TypeId} {v : Value} {l : List α} (h : P.underlying t = some (.slice e)) (i : eL E x = v) (a : Sl R k m v l) : fC P E ⟨d, .call ⟨.builtin .len, #[x], #[t]⟩, ty, pos, af, g⟩ W (.int .i64 l.length) W := by
 obtain ⟨A, c, rfl, _⟩ := a
 exact sI h i
theorem wA {t : TypeId} {x a : Operand} {p : IntKind} {s : ByteArray} {i : Int} {c : UInt8} (n : P.underlying t = some .string) (o : eL E x = .string s) (j : eL E a = .int p i) (h : 0 ≤ i) (k : s[i.toNat]? = some c) :
  fC P E ⟨d, .index t x a, ty, pos, af, g⟩ W (.int .u8 c.toNat) W := by
 show (do pure (.value (← Instr.index t (eL E x) (eL E a))) : Sem Next).run P W = _
 rw [o, j]
 simp [Instr.index, asIntOf, aA n, h, k]
def gA (P : Program) (t : TypeId) (f off : Nat) : Prop := ∀ b o w, (Instr.fieldAt t (.pointer (some ⟨b, o, none⟩)) f).run P w = .ok (.pointer (some ⟨b, o + off, none⟩)) w
theorem fe {t : TypeId} {x : Operand} {f off b o : Nat} (a : gA P t f off) (c : eL E x = .pointer (some ⟨b, o, none⟩)) : fC P E ⟨d, .fieldAddr t x f, ty, pos, af, g⟩ W (.pointer (some ⟨b, o + off, none⟩)) W := by
 show (do pure (.value (← Instr.fieldAt t (eL E x) f)) : Sem Next).run P W = _
 rw [c]; simp [a b o W]
theorem oO {t : TypeId} {x : Operand} {f off : Nat} {v : Value} {ys : List Value} (a : List Value) (k : gA P t f off) (q : eL E x = v) (p : At μ v ys) (s : (ys.drop off).take a.length = a) :
  ∃ h, At μ h a ∧ ∀ W, fC P E ⟨d, .fieldAddr t x f, ty, pos, af, g⟩ W h W := by
 obtain ⟨b, o, cs, T, fr, rfl, h1, i⟩ := p
 refine ⟨_, ⟨b, o + off, cs, T, fr, rfl, h1, fun j y c => ?_⟩, fun W => fe k q⟩
 have n : j < a.length := (aI.1 c).1
 have := i (off + j) y (by
  rw [← s, cI n, cg] at c
  exact c)
 rw [dm]
 exact this
theorem kK {x : Operand} {a : Addr} (c : eL E x = .pointer (some a)) : fC P E ⟨d, .nilCheck x, ty, pos, af, g⟩ W (.pointer (some a)) W := by
 unfold fC execOp
 simp [c]
theorem sv {α : Type} {R : jg α} {k : Nat} {t e : TypeId} {x h : Operand} {O : IntKind} {v : Value} {i : Int} {l : List α} {x0 : α} (K : P.underlying t = some (.slice e)) (he : ∀ w, (sizeOf e).run P w = .ok k w) (L : eL E x = v) (G : eL E h = .int O i) (J : Sl R k μ v l) (o : 0 ≤ i) (n : l[i.toNat]? = some x0) :
  ∃ p ys, ys.length = k ∧ R μ ys x0 ∧ At μ p ys ∧ ∀ W, fC P E ⟨d, .indexAddr t x h, ty, pos, af, g⟩ W p W := by
 obtain ⟨A, c, rfl, Q, U, q⟩ := J
 have I : i.toNat < l.length := (aI.1 n).1
 obtain ⟨b, off, cs, T, fr, rfl, s, u⟩ := q (by omega)
 obtain ⟨ys, z, D, a⟩ := u i.toNat x0 n
 refine ⟨.pointer (some ⟨b, off + i.toNat * k, none⟩), ys, z, D, ⟨b, off + i.toNat * k, cs, T, fr, rfl, s, fun j y M => a j y M⟩, fun W => ?_⟩
 show (do pure (.value (← Instr.indexAt t (eL E x) (eL E h))) : Sem Next).run P W = _
 rw [L, G]
 have F : 0 ≤ i ∧ i < (l.length : Int) := ⟨o, by omega⟩
 simp [Instr.indexAt, asIntOf, aA K, he W, F, cj]
theorem mZ {α : Type} {enc : α → List Value} {k : Nat} {t e : TypeId} {x a : Operand} {z : IntKind} {v : Value} {i : Int} {l : List α} {x0 : α} (u : P.underlying t = some (.slice e)) (he : ∀ w, (sizeOf e).run P w = .ok k w) (y : eL E x = v) (o : eL E a = .int z i) (s : Sl (Pl enc) k μ v l) (c : 0 ≤ i) (q : l[i.toNat]? = some x0) :
  ∃ p, At μ p (enc x0) ∧ ∀ W, fC P E ⟨d, .indexAddr t x a, ty, pos, af, g⟩ W p W := by
 obtain ⟨p, ys, h1, h, j, n⟩ := sv (d := d) (ty := ty) (pos := pos) (af := af) (g := g) u he y o s c q
 cases h
 exact ⟨p, j, n⟩
theorem tm (P : Program) {W : World} {b off : Nat} {cs : Array Value} {T : TypeId} {fr : Nat × Nat} (a : W.heap[b]? = some (.cells cs T fr)) (ys : List Value) (d : ∀ j y, ys[j]? = some y → cs[off + j]? = some y) :
  (loadCells ⟨b, off, none⟩ ys.length).run P W = .ok ys.toArray W :=
 dR W ⟨b, off, none⟩ ys (fun j v c => by rw [cj, dY W b (off + j) cs T fr a]; exact d j v c)
theorem oW {W : World} {t : TypeId} {b off : Nat} {cs : Array Value} {T : TypeId} {fr : Nat × Nat} (a : ∀ w, (isAgg t).run P w = .ok true w) (ys : List Value) (c : ∀ w, (sizeOf t).run P w = .ok ys.length w) (d : W.heap[b]? = some (.cells cs T fr)) (g : ∀ j y, ys[j]? = some y → cs[off + j]? = some y) : (Instr.loadAt t (.pointer (some ⟨b, off, none⟩))).run P W = .ok (.agg ys.toArray) W := by
 simp [Instr.loadAt, Instr.sureAddr, loadVar, a W, c W, tm P d ys g]
theorem qU {W : World} {t : TypeId} {b off : Nat} {cs : Array Value} {T : TypeId} {fr : Nat × Nat} (a : ∀ w, (isAgg t).run P w = .ok false w) {y : Value} (c : W.heap[b]? = some (.cells cs T fr)) (g : cs[off]? = some y) : (Instr.loadAt t (.pointer (some ⟨b, off, none⟩))).run P W = .ok y W := by
 have d : W.cell? ⟨b, off, none⟩ = some y := by rw [dY W b off cs T fr c]; exact g
 simp [Instr.loadAt, Instr.sureAddr, loadVar, a W, load, Sem.run, d]
theorem eU {t : TypeId} {x : Operand} {a v : Value} (h : eL E x = a) (c : (Instr.loadAt t a).run P W = .ok v W) : fC P E ⟨d, .load t x, ty, pos, af, g⟩ W v W := by
 show (do pure (.value (← Instr.loadAt t (eL E x))) : Sem Next).run P W = _
 rw [h]; simp [c]
def kD (μ : eV) (A : List (Nat × Obj)) (W : World) : Prop := (∀ b o, μ b = some o → W.heap[b]? = some o) ∧ ∀ b o, (b, o) ∈ A → W.heap[b]? = some o
theorem ST.has (h : ST dd F w W μ L) : kD μ L W := ⟨h.mem, fun b o a => (h.box b o a).1⟩
theorem kD.sub {μ' : eV} {A A' : List (Nat × Obj)} (h : kD μ A W) (d : eT μ' μ) (c : ∀ p, p ∈ A' → p ∈ A) : kD μ' A' W := ⟨fun b o a => h.1 b o (d b o a), fun b o a => h.2 b o (c _ a)⟩
theorem ng {A : List (Nat × Obj)} (hH : kD μ A W) {t : TypeId} {p : Value} {ys : List Value} (hp : At μ p ys) (c : ∀ w, (isAgg t).run P w = .ok true w) (d : ∀ w, (sizeOf t).run P w = .ok ys.length w) :
  (Instr.loadAt t p).run P W = .ok (.agg ys.toArray) W := by
 obtain ⟨b, off, cs, T, fr, rfl, h1, a⟩ := hp
 exact oW c ys d (hH.1 _ _ h1) a
theorem kP {A : List (Nat × Obj)} (hH : kD μ A W) {t : TypeId} {p y : Value} (hp : At μ p [y]) (c : ∀ w, (isAgg t).run P w = .ok false w) :
  (Instr.loadAt t p).run P W = .ok y W := by
 obtain ⟨b, off, cs, T, fr, rfl, h1, a⟩ := hp
 exact qU c (hH.1 _ _ h1) (a 0 y rfl)
theorem fh {A : List (Nat × Obj)} (hH : kD μ A W) {t : TypeId} {b off : Nat} {cs : Array Value} {T : TypeId} {fr : Nat × Nat} (g : (b, Obj.cells cs T fr) ∈ A) (ys : List Value) (i : (cs.toList.drop off).take ys.length = ys) (d : ∀ w, (isAgg t).run P w = .ok true w) (h : ∀ w, (sizeOf t).run P w = .ok ys.length w) : (Instr.loadAt t (.pointer (some ⟨b, off, none⟩))).run P W = .ok (.agg ys.toArray) W :=
 oW d ys h (hH.2 _ _ g) (fun j y a => by
  have c : j < ys.length := (aI.1 a).1
  rw [← i, cI c, cg] at a
  simpa using a)
theorem fx {A : List (Nat × Obj)} (hH : kD μ A W) {t : TypeId} {b off : Nat} {cs : Array Value} {T : TypeId} {fr : Nat × Nat} (c : (b, Obj.cells cs T fr) ∈ A) {y : Value} (d : cs[off]? = some y) (a : ∀ w, (isAgg t).run P w = .ok false w) : (Instr.loadAt t (.pointer (some ⟨b, off, none⟩))).run P W = .ok y W :=
 qU a (hH.2 _ _ c) d
theorem gI {t : TypeId} {a : Array (Nat × Operand)} {qs : Array (Nat × Value)} {v : Value} (c : a.map (fun (i, x) => (i, eL E x)) = qs) (h : ∀ W, (Instr.build t qs).run P W = .ok v W) : fC P E ⟨d, .build t a, ty, pos, af, g⟩ W v W := by
 show (do pure (.value (← Instr.build t (a.map fun (i, x) => (i, eL E x)))) : Sem Next).run P W = _
 rw [c]; simp [h W]
theorem fT {t : TypeId} {z cs : Array Value} {a : Array Field} {qs : Array (Nat × Value)} {pl : Array (Nat × Nat)} (g : ∀ w, (zeroValue t).run P w = .ok (.agg z) w) (d : P.underlying t = some (.struct a)) (hp : ∀ w, (a.mapM fun f => do pure (f.offset, ← sizeOf f.type) : Sem (Array (Nat × Nat))).run P w = .ok pl w) (c : Instr.fill (pl[·]?) z qs.toList = some cs) (W : World) : (Instr.build t qs).run P W = .ok (.agg cs) W := by
 simp only [Instr.build, aX, g W, aJ, aA d, Value.cells]
 rw [hp W]
 simp only [aJ, c, bL]
end
theorem qi {α : Type} : ∀ (a : Ask α) (w : World), w.drawn ≤ (w.ask a).2.drawn
 | .done a, w => by simp [World.ask]
 | .ask c range k, w => by
  unfold World.ask
  dsimp only
  split
  ·exact qi (k 0) w
  ·refine bD (eC w.drawn) ?_
   exact qi _ { w with drawn := w.drawn + 1 }
theorem xu (w : World) (c : Sys) : w.drawn ≤ (w.sys c).2.drawn := by
 have h := qi (Kernel.perform c w.os) w
 unfold World.sys
 generalize w.ask (Kernel.perform c w.os) = r at *
 obtain ⟨⟨a, d⟩, g⟩ := r
 cases a <;> simp at h ⊢ <;> exact h
theorem sb {p : Program} {w c : World} {a : Addr} {u : TypeId} {k : Addr} {v : Value} {b : Bool} {l : List Addr} (h : w.viewStore p a u k v b = .ok (c, l)) : c.drawn = w.drawn := by
 unfold World.viewStore at h
 simp only [bind, Except.bind, pure, Except.pure] at h
 split at h
 ·cases h
 ·split at h
  ·cases h
  ·split at h
   ·split at h
    ·cases h
    ·split at h
     ·cases h
     ·cases h; rfl
   ·cases h
theorem sH {p : Program} {w c : World} {a : Addr} {v : Value} {b : Bool} {l : List Addr} (h : w.farStore p a v b = .ok (c, l)) : c.drawn = w.drawn := by
 unfold World.farStore at h
 split at h
 ·split at h
  ·rename_i h1; cases h; exact sb h1
  ·cases h
 ·cases h
theorem gJ {α : Type} {p : Program} : ∀ (s : Sem α) (w d : World) (a : α), s.run p w = .ok a d → w.drawn ≤ d.drawn
 | .pure a, w, d, b, h => by simp only [Sem.run] at h; cases h; exact aM _
 | .load m a k, w, d, b, h => by
  simp only [Sem.run] at h
  split at h
  ·exact gJ _ _ _ _ h
  ·split at h
   ·exact gJ _ _ _ _ h
   ·cases h
 | .store m a v k, w, d, b, h => by
  have key : ∀ (r : Result α) i, r = .ok b d → (r = (match w.cell? a with
    | some _ => if w.frozen? a then .halt i w else k.run p (w.setCell a v)
    | none => match w.farStore p a v (m == .atomic) with
     | .ok (w, _) => k.run p w
     | .error h => .halt h w)) → w.drawn ≤ d.drawn := by
   intro r i j h
   rw [j] at h
   split at h
   ·split at h
    ·cases h
    ·have := gJ k _ _ _ h.symm
     simpa [World.setCell] using this
   ·split at h
    ·rename_i h1
     have g := gJ k _ _ _ h.symm
     rw [sH h1] at g
     exact g
    ·cases h
  cases v with
  | agg cs => simp only [Sem.run] at h; cases h
  | tuple cs => simp only [Sem.run] at h; cases h
  | _ => exact key _ _ h (by simp only [Sem.run]; rfl)
 | .new o k, w, d, b, h => by simp only [Sem.run] at h; have := gJ (k _) _ _ _ h; exact this
 | .shape r k, w, d, b, h => by simp only [Sem.run] at h; exact gJ _ _ _ _ h
 | .freeze a n k, w, d, b, h => by
  simp only [Sem.run] at h
  have := gJ k _ _ _ h
  unfold World.freeze at this
  split at this <;> exact this
 | .frozen a k, w, d, b, h => by simp only [Sem.run] at h; exact gJ _ _ _ _ h
 | .getObj r k, w, d, b, h => by
  simp only [Sem.run] at h
  split at h <;> try (cases h; done)
  exact gJ _ _ _ _ h
 | .setObj r o k, w, d, b, h => by
  simp only [Sem.run] at h
  split at h <;> try (cases h; done)
  have := gJ k _ _ _ h
  exact this
 | .choose q k, w, d, b, h => by
  simp only [Sem.run] at h
  split at h
  ·exact gJ _ _ _ _ h
  ·exact bD (eC _) (gJ _ _ _ _ h)
 | .sys c k, w, d, b, h => by
  simp only [Sem.run] at h
  exact bD (xu w c) (gJ _ _ _ _ h)
 | .program k, w, d, b, h => by simp only [Sem.run] at h; exact gJ _ _ _ _ h
 | .mark m k, w, d, b, h => by simp only [Sem.run] at h; exact gJ k _ _ _ h
 | .halt x, w, d, b, h => by simp only [Sem.run] at h; cases h
end Go.Proofs.Ytcafmokjkjcomaa
namespace Go.Proofs.Ytcafmokjkjcomaa
open Go.RowKit
variable {dd : Bool}
section
variable {P : Program} {n : Nat} {Q : gn} {E : Nat → Value} {W : World} {ops : Array Oper} {rest : List Oper}
 {d : Option Nat} {ty : TypeId} {pos : String} {af : Array Edge} {g : Option (Nat × Bool)}
 {F : Nat → Prop} {w : World} {μ : eV} {L : List (Nat × Obj)}
def gK (P : Program) (E : Nat → Value) (o : Oper) (W : World) (K : Value → World → Prop) : Prop :=
 (∃ v W', (execOp (eL E) o).run P W = .ok (.value v) W' ∧ K v W') ∨ (∃ W', (execOp (eL E) o).run P W = .ok .skip W' ∧ K undef W') ∨
 (∃ f args, (execOp (eL E) o).run P W = .ok (.enter f args) W ∧ Calls P f args W fun e a => ∃ v, e = .returned v ∧ K v a)
theorem gK.mono {o : Oper} {K K' : Value → World → Prop} (h : gK P E o W K) (hk : ∀ v W', K v W' → K' v W') : gK P E o W K' := by
 rcases h with ⟨v, W', h1, a⟩ | ⟨W', h1, a⟩ | ⟨f, args, h1, a⟩
 ·exact .inl ⟨v, W', h1, hk _ _ a⟩
 ·exact .inr (.inl ⟨W', h1, hk _ _ a⟩)
 ·exact .inr (.inr ⟨f, args, h1, bi a (fun _ _ ⟨v, c, d⟩ => ⟨v, c, hk _ _ d⟩)⟩)
theorem zD {o : Oper} {dd : Nat} (hw : gE n ops E o) (g : o.dst = some dd) (i : dd < n) (h : gK P E o W fun v W' => LW P n ops Q rest (gb E dd v) W') : LW P n ops Q (o :: rest) E W := by
 rcases h with ⟨v, W', h1, c⟩ | ⟨W', h1, c⟩ | ⟨f, args, h1, c⟩
 ·exact wN hw g i h1 c
 ·intro a d
  unfold wpList
  rw [aD (hw.of d)]
  refine .inl ?_
  unfold Oper.wp
  rw [d.eval, h1, cY, g]
  exact c _ (d.put i _)
 ·exact xL hw g i h1 c
theorem Af {o : Oper} (hw : gE n ops E o) (g : o.dst = none) (h : gK P E o W fun _ W' => LW P n ops Q rest E W') : LW P n ops Q (o :: rest) E W := by
 rcases h with ⟨v, W', h1, d⟩ | ⟨W', h1, d⟩ | ⟨f, args, h1, d⟩
 ·intro a c
  unfold wpList
  rw [aD (hw.of c)]
  refine .inl ?_
  unfold Oper.wp
  rw [c.eval, h1, cq, g]
  exact d _ (c.kv _)
 ·exact xT hw g h1 d
 ·intro a c
  unfold wpList
  rw [aD (hw.of c)]
  refine .inl ?_
  unfold Oper.wp
  rw [c.eval, h1, cr]
  refine bi d ?_
  rintro e j ⟨v, rfl, i⟩
  simp only [g]
  exact i _ (c.kv _)
theorem iM {K : Value → World → Prop} {t : TypeId} {x : Operand} {v : Value} (a : ST dd F w W μ L) (c : eL E x = v) (h : ∀ W' b, ST dd F w W' μ ((b, .cells v.cells t (0, 0)) :: L) → K (.pointer (some ⟨b, 0, none⟩)) W') : gK P E ⟨d, .box t x, ty, pos, af, g⟩ W K :=
 .inl ⟨.pointer (some ⟨W.heap.size, 0, none⟩), W.alloc (.cells v.cells t (0, 0)), by
   show (do pure (.value (← Instr.box t (eL E x))) : Sem Next).run P W = _
   rw [c]
   simp [Instr.box, newVar, newRow, newObj, Sem.run], h _ _ (a.alloc _)⟩
theorem gN {K : Value → World → Prop} {t : TypeId} {z : Value} (a : ST dd F w W μ L) (c : ∀ w, (zeroValue t).run P w = .ok z w) (h : ∀ W' b, ST dd F w W' μ ((b, .cells z.cells t (0, 0)) :: L) → K (.pointer (some ⟨b, 0, none⟩)) W') : gK P E ⟨d, .alloc t, ty, pos, af, g⟩ W K :=
 .inl ⟨.pointer (some ⟨W.heap.size, 0, none⟩), W.alloc (.cells z.cells t (0, 0)), by
   show (do pure (.value (← Instr.alloc t true (.tuple #[]))) : Sem Next).run P W = _
   simp [Instr.alloc, c W, newVar, newRow, newObj, Sem.run], h _ _ (a.alloc _)⟩
theorem so {t e : TypeId} {m k : Nat} {z : Value} {qs : Array (Nat × Value)} {cs : Array Value} (g : P.underlying t = some (.slice e)) (d : ∀ w, (sizeOf e).run P w = .ok k w) (h : ∀ w, (zeroValue e).run P w = .ok z w) (hm : m * k ≤ 16777216) (a : Instr.fill (fun i => some (i * k, k)) ((Array.range (m * k)).map (fun i => (if m * k = 0 then (#[] : Array Value) else z.cells)[i % (if m * k = 0 then (#[] : Array Value) else z.cells).size]!)) qs.toList = some cs) (W : World) :
  (Instr.buildSlice t m qs).run P W = .ok (.slice (some ⟨W.heap.size, 0, none⟩) m m) (W.alloc (.cells cs e (0, 0))) := by
 simp only [Instr.buildSlice, aX, aA g, aJ, d W]
 rw [aF (by omega)]
 by_cases c : m * k = 0
 ·simp only [c, aT] at a ⊢
  simp only [aX, bL, aJ, a]
  simp [newRow, newObj, Sem.run]
 ·simp only [c, aQ] at a ⊢
  simp only [aX, h W, bL, aJ, a]
  simp [newRow, newObj, Sem.run]
theorem fJ {K : Value → World → Prop} {t e : TypeId} {m : Nat} {c : Array (Nat × Operand)} {qs : Array (Nat × Value)} {cs : Array Value} (a : ST dd F w W μ L) (j : c.map (fun (i, x) => (i, eL E x)) = qs) (k : ∀ W, (Instr.buildSlice t m qs).run P W = .ok (.slice (some ⟨W.heap.size, 0, none⟩) m m) (W.alloc (.cells cs e (0, 0)))) (h : ∀ W' b, ST dd F w W' μ ((b, .cells cs e (0, 0)) :: L) → K (.slice (some ⟨b, 0, none⟩) m m) W') : gK P E ⟨d, .buildSlice t m c, ty, pos, af, g⟩ W K :=
 .inl ⟨.slice (some ⟨W.heap.size, 0, none⟩) m m, W.alloc (.cells cs e (0, 0)), by
   show (do pure (.value (← Instr.buildSlice t m (c.map fun (i, x) => (i, eL E x)))) : Sem Next).run P W = _
   rw [j]
   simp [k W], h _ _ (a.alloc _)⟩
theorem ST.store {A B : List (Nat × Obj)} {b : Nat} {cs : Array Value} {t : TypeId} (a : ST dd F w W μ (A ++ (b, .cells cs t (0, 0)) :: B)) (cs' : Array Value) :
  ST dd F w (W.setRow b cs') μ (A ++ (b, .cells cs' t (0, 0)) :: B) := by
 have c := (a.box b _ (by simp : (b, Obj.cells cs t (0, 0)) ∈ A ++ (b, .cells cs t (0, 0)) :: B)).1
 refine a.put ⟨rfl, rfl, rfl, aM _, by simp [World.setRow]⟩ (fun k hk => ?_) (setRow_heap W b cs cs' t (0, 0) c)
 simp only [World.setRow, bZ]
 rw [aF (fun e => hk e.symm)]
theorem pc (P : Program) {W : World} {t : TypeId} {b off : Nat} {cs : Array Value} {T : TypeId} (v : Value) (a : ∀ w, (sizeOf t).run P w = .ok v.cells.size w) (h1 : ∀ u ∈ v.cells.toList, u.oneCell' = true) (c : W.heap[b]? = some (.cells cs T (0, 0))) (d : off + v.cells.size ≤ cs.size) : (Instr.storeAt t (.pointer (some ⟨b, off, none⟩)) v).run P W = .ok () (W.setRow b (cs.toList.take off ++ v.cells.toList ++ cs.toList.drop (off + v.cells.size)).toArray) := by
 have := run_storeCells_at (P := P) b off T v.cells.toList 0 cs W c (by simpa using d) h1
 simp [Instr.storeAt, Instr.sureAddr, storeVar, a W]
 simpa using this
theorem nW {K : Value → World → Prop} (A : List (Nat × Obj)) {B : List (Nat × Obj)} {t : TypeId} {x y : Operand} (v : Value) {b off : Nat} {cs : Array Value} {T : TypeId} (cs' : Array Value) (a : ST dd F w W μ (A ++ (b, .cells cs T (0, 0)) :: B)) (n : eL E x = .pointer (some ⟨b, off, none⟩)) (o : eL E y = v) (c : ∀ w, (sizeOf t).run P w = .ok v.cells.size w) (h1 : ∀ u ∈ v.cells.toList, u.oneCell' = true) (k : off + v.cells.size ≤ cs.size) (j : (cs.toList.take off ++ v.cells.toList ++ cs.toList.drop (off + v.cells.size)).toArray = cs') (h : ∀ W', ST dd F w W' μ (A ++ (b, .cells cs' T (0, 0)) :: B) → K undef W') : gK P E ⟨d, .store t x y, ty, pos, af, g⟩ W K :=
 .inr (.inl ⟨W.setRow b cs', by
   show (do Instr.storeAt t (eL E x) (eL E y); pure .skip : Sem Next).run P W = _
   have i := (a.box b _ (by simp : (b, Obj.cells cs T (0, 0)) ∈ A ++ (b, .cells cs T (0, 0)) :: B)).1
   rw [n, o]
   simp only [aX, pc P v c h1 i k, j, aJ, bL], h _ (a.store cs')⟩)
def fQ (dd : Bool) (P : Program) (f : FuncId) (args : List Value) (w : World) (v : Value) : Prop := Calls P f args.toArray w fun e a => e = .returned v ∧ Ex dd w a
theorem sN {f : FuncId} {fv : Operand} {ax : Array Operand} {ats : Array TypeId} {caps args : Array Value} (c : eL E fv = .func (.func f) #[] caps) (he : ∀ args w, (callFunc f args).run P w = .ok (.enter f args) w) (a : ax.map (eL E) ++ caps = args) :
  (execOp (eL E) ⟨d, .call ⟨.value fv, ax, ats⟩, ty, pos, af, g⟩).run P W = .ok (.enter f args) W := by
 show (do let d ← resolve (eL E) ⟨.value fv, ax, ats⟩ ty; invoke d.target d.args : Sem Next).run P W = _
 rw [← a]
 simp only [resolve, c, Deferred.ofValue, aX, bL, aJ, invoke]
 simp [he]
theorem qE {K : Value → World → Prop} {f : FuncId} {fv : Operand} {ax : Array Operand} {ats : Array TypeId} {caps args : Array Value} (c : eL E fv = .func (.func f) #[] caps) (he : ∀ args w, (callFunc f args).run P w = .ok (.enter f args) w) (a : ax.map (eL E) ++ caps = args) (h : Calls P f args W fun e i => ∃ v, e = .returned v ∧ K v i) : gK P E ⟨d, .call ⟨.value fv, ax, ats⟩, ty, pos, af, g⟩ W K :=
 .inr (.inr ⟨f, args, sN c he a, h⟩)
theorem yY {K : Value → World → Prop} {f : FuncId} {fv : Operand} {ax : Array Operand} {ats : Array TypeId} {args : List Value} {v : Value} (a : ST dd F w W μ L) (k : eL E fv = .func (.func f) #[] #[]) (he : ∀ args w, (callFunc f args).run P w = .ok (.enter f args) w) (i : (ax.map (eL E) ++ (#[] : Array Value)) = args.toArray) (j : fQ dd P f args W v) (h : ∀ W', ST dd F w W' μ L → K v W') : gK P E ⟨d, .call ⟨.value fv, ax, ats⟩, ty, pos, af, g⟩ W K :=
 qE k he i (bi j (fun _ _ ⟨h1, c⟩ => ⟨v, h1, h _ (a.wh c)⟩))
def fp {α : Type} (e : TypeId) (enc : α → List Value) (k : Nat) (v : Value) (l : List α) (R : List (Nat × Obj)) : Prop :=
 (v = .slice none 0 0 ∧ l = [] ∧ R = []) ∨
 ∃ g cap a, v = .slice (some ⟨g, 0, none⟩) l.length cap ∧ R = [(g, .cells a e (0, 0))] ∧ l.length ≤ cap ∧ cap ≤ maxLen ∧ a.size = cap * k ∧ a.toList.take (l.length * k) = (l.map enc).flatten
theorem ko {α : Type} {enc : α → List Value} {k : Nat} (hk : ∀ x, (enc x).length = k) : ∀ l : List α, (l.map enc).flatten.length = l.length * k
 | [] => by simp
 | x :: l => by simp [ko hk l, hk x, bp, ep]
theorem my {α : Type} {enc : α → List Value} {k : Nat} (hk : ∀ x, (enc x).length = k) : ∀ (l : List α) (i : Nat) (x : α), l[i]? = some x → ∀ j y, (enc x)[j]? = some y → (l.map enc).flatten[i * k + j]? = some y
 | [], i, x, h => by cases h
 | z :: l, 0, x, h => by
  simp at h; subst h
  intro j y a
  have c : j < (enc z).length := (aI.1 a).1
  simp [cZ, c]
  rw [br c] at a
  simpa using a
 | z :: l, i + 1, x, h => by
  intro j y a
  have := my hk l i x (by simpa using h) j y a
  simp only [aR, bE]
  rw [da (by rw [hk z]; have := Nat.le_mul_of_pos_left k (Nat.succ_pos i); simp [bp] at *; omega), hk z]
  rw [show (i + 1) * k + j - k = i * k + j by rw [bp]; omega]
  exact this
theorem uu {α : Type} {enc : α → List Value} {k : Nat} (hk : ∀ x, (enc x).length = k) : ∀ (l : List α) (q : Nat) (y : Value), (l.map enc).flatten[q]? = some y → ∃ i x j, l[i]? = some x ∧ (enc x)[j]? = some y ∧ q = i * k + j
 | [], q, y, h => by simp at h
 | z :: l, q, y, h => by
  simp only [aR, bE] at h
  by_cases c : q < k
  ·rw [List.getElem?_append_left (by rw [hk]; exact c)] at h
   exact ⟨0, z, q, rfl, h, by simp⟩
  ·rw [da (by rw [hk]; omega), hk] at h
   obtain ⟨i, x, j, h1, a, d⟩ := uu hk l (q - k) y h
   exact ⟨i + 1, x, j, by simpa using h1, a, by rw [bp]; omega⟩
theorem fp.nil {α : Type} (e : TypeId) (enc : α → List Value) (k : Nat) : fp e enc k (.slice none 0 0) [] [] := .inl ⟨rfl, rfl, rfl⟩
theorem fp.sl {α : Type} {e : TypeId} {enc : α → List Value} {k : Nat} {v : Value} {l : List α} {R : List (Nat × Obj)} {m : eV} (h : fp e enc k v l R) (hk : ∀ x, (enc x).length = k) (hm : ∀ b o, (b, o) ∈ R → m b = some o) : Sl (Pl enc) k m v l := by
 rcases h with ⟨rfl, rfl, rfl⟩ | ⟨g, cap, a, rfl, rfl, h1, d, s, n⟩
 ·exact Sl.nil _ _ _
 ·refine ⟨_, cap, rfl, h1, d, fun _ => ⟨g, 0, a, e, (0, 0), rfl, hm _ _ (by simp), fun i x p => ⟨enc x, hk x, rfl, fun j y q => ?_⟩⟩⟩
  have := my hk l i x p j y q
  rw [← n] at this
  have c : i * k + j < l.length * k := by
   have := (aI.1 this).1
   simp at this; omega
  rw [cI c] at this
  simpa using this
theorem fp.len {α : Type} {e : TypeId} {enc : α → List Value} {k : Nat} {v : Value} {l : List α} {R : List (Nat × Obj)} (h : fp e enc k v l R) : l.length ≤ 9223372036854775807 := by
 rcases h with ⟨rfl, rfl, rfl⟩ | ⟨g, cap, a, rfl, rfl, h1, c, d, i⟩
 ·simp
 ·unfold maxLen at c; omega
theorem fp.fr {α : Type} {e : TypeId} {enc : α → List Value} {k : Nat} {v : Value} {l : List α} {R X Y : List (Nat × Obj)} (h : fp e enc k v l R) (a : ST dd fY w W μ (X ++ (R ++ Y))) : Fr w.heap.size v := by
 rcases h with ⟨rfl, rfl, rfl⟩ | ⟨g, cap, d, rfl, rfl, h1, i, j, n⟩
 ·exact Fr.nil _
 ·intro b c
  simp [Value.ownBlock] at c
  subst c
  rcases (a.box g _ (by simp; exact .inr (.inl rfl))).2.2 with h | h
  ·exact h
  ·exact h.elim
theorem fp.lit {α : Type} {e : TypeId} {enc : α → List Value} {k b m : Nat} {l : List α} {cs : Array Value} (hm : l.length = m) (c : m ≤ maxLen) (d : cs.toList = (l.map enc).flatten) (a : cs.size = m * k) : fp e enc k (.slice (some ⟨b, 0, none⟩) m m) l [(b, .cells cs e (0, 0))] := by
 subst hm
 refine .inr ⟨b, _, cs, rfl, rfl, aM _, c, a, ?_⟩
 rw [← d, ← a]
 exact cu (by rw [bz]; exact aM _)
def kN {α : Type} (a : Nat) (l m : List α) : Option (List α) := if (l.length + m.length) * a ≤ 140737488355328 ∧ l.length + m.length ≤ maxLen then some (l ++ m) else none
theorem xM {K : Value → World → Prop} {α : Type} {e t : TypeId} {enc : α → List Value} {k ab : Nat} {z v vs : Value} {l m r : List α} {R : List (Nat × Obj)} (X : List (Nat × Obj)) {Y : List (Nat × Obj)} {x y : Operand} {i : TypeInfo} (p : ST dd F w W μ (X ++ (R ++ Y))) (hk : ∀ x, (enc x).length = k) (b5 : 0 < k) (h1 : ∀ x, ∀ u ∈ enc x, u.oneCell' = true) (ht : P.underlying t = some (.slice e)) (hi : P.info? e = some i) (hz : i.zero = some z) (ba : z.cells.size = k) (b6 : i.size = k) (b3 : i.bytes = ab) (hx : eL E x = v) (hy : eL E y = vs) (hR : fp e enc k v l R) (hs : Sl (Pl enc) k (hp W) vs m) (n : kN ab l m = some r) (h : ∀ W' v' R', ST dd F w W' μ (X ++ (R' ++ Y)) → fp e enc k v' r R' → K v' W') : gK P E ⟨d, .call ⟨.builtin .append, #[x, y], #[t, t]⟩, ty, pos, af, g⟩ W K := by
 unfold kN at n
 split at n
 case isFalse => cases n
 rename_i aj
 cases n
 have aa : ∀ (V : Value) (W' : World), (Builtin.append_ #[t, t] ty #[v, vs]).run P W = .ok V W' → (execOp (eL E) ⟨d, .call ⟨.builtin .append, #[x, y], #[t, t]⟩, ty, pos, af, g⟩).run P W = .ok (.value V) W' := by
  intro V W' hV
  show (do let d ← resolve (eL E) ⟨.builtin .append, #[x, y], #[t, t]⟩ ty; invoke d.target d.args : Sem Next).run P W = _
  simp [resolve, invoke, builtin, hx, hy, hV]
 obtain ⟨A, c, rfl, c0, c3, b4⟩ := hs
 have a8 : W.ownsRow 0 e k v l.length (l.map enc).flatten := by
  refine ⟨ko hk l, ?_⟩
  rcases hR with ⟨rfl, rfl, rfl⟩ | ⟨g, cap, I, rfl, rfl, h1, h2, h3, h4⟩
  ·exact .inl ⟨rfl, rfl⟩
  ·exact .inr ⟨g, cap, I, rfl, db _, (p.box g _ (by simp)).1, h1, h2, h3, h4⟩
 have au : m.length = 0 ∨ ∃ ad, A = some ad ∧ ∀ j u, (m.map enc).flatten[j]? = some u → W.cell? (ad.add j) = some u := by
  rcases cw m.length with M | M
  ·exact .inl M
  ·obtain ⟨b, off, cs, T, fr, rfl, h6, h7⟩ := b4 M
   refine .inr ⟨⟨b, off, none⟩, rfl, fun j u hu => ?_⟩
   obtain ⟨i, x, q, h8, h9, rfl⟩ := uu hk m j u hu
   obtain ⟨ys, _, aE, b0⟩ := h7 i x h8
   cases aE
   rw [cj, dY W b (off + (i * k + q)) cs T fr h6, ← dm]
   exact b0 q u h9
 have ar : ∀ u ∈ (m.map enc).flatten, u.oneCell' = true := by
  intro u hu
  obtain ⟨ys, b9, b7⟩ := List.mem_flatten.1 hu
  obtain ⟨x, _, rfl⟩ := aP.1 b9
  exact h1 x u b7
 by_cases ao : m.length = 0
 ·have hm : m = [] := cm ao
  subst hm
  have hr : (Builtin.append_ #[t, t] ty #[v, .slice A 0 c]).run P W = .ok v W := by
   rcases a8.2 with ⟨rfl, M⟩ | ⟨g, cap, I, rfl, _, hg, ap, _, c4, _⟩
   ·cases A with
    | none => simp [Builtin.append_, aA ht, sizeOf, typeInfo, hi, Builtin.lenOf, Builtin.firstCells]
    | some ad => simp [Builtin.append_, aA ht, sizeOf, typeInfo, hi, Builtin.lenOf, Builtin.firstCells, loadCells, loadCellsFrom]
   ·cases A with
    | none => simp [Builtin.append_, aA ht, sizeOf, typeInfo, hi, Builtin.lenOf, Builtin.firstCells, ap, storeCells]
    | some ad => simp [Builtin.append_, aA ht, sizeOf, typeInfo, hi, Builtin.lenOf, Builtin.firstCells, loadCells, loadCellsFrom, ap, storeCells]
  exact .inl ⟨v, W, aa _ _ (by simpa using hr), by simpa using h W v R p (by simpa using hR)⟩
 rcases au with M | ⟨ad, rfl, a1⟩
 ·exact absurd M ao
 obtain ⟨v', W', hr, ah, s, bs, L⟩ := run_append_own_at (P := P) W 0 t ty e i z k ab ht hi hz b6 b3 ba b5 v l.length (l.map enc).flatten a8 ad m.length c (m.map enc).flatten (ko hk m) a1 ar aj.2 aj.1 (db _)
 have ae := gJ _ _ _ _ hr
 refine .inl ⟨v', W', aa _ _ hr, ?_⟩
 have hlen : (l ++ m).length = l.length + m.length := by simp
 rcases ah.2 with ⟨_, M⟩ | ⟨Q, a6, a7, rfl, _, ag, bb, ak, al, av⟩
 ·omega
 have ai : fp e enc k (.slice (some ⟨Q, 0, none⟩) (l.length + m.length) a6) (l ++ m) [(Q, .cells a7 e (0, 0))] :=
  .inr ⟨Q, a6, a7, by rw [hlen], rfl, by omega, ak, al, by rw [hlen, av]; simp⟩
 refine h W' _ _ ?_ ai
 have aq := p.nd
 rcases hR with ⟨rfl, rfl, rfl⟩ | ⟨g, cap, I, rfl, rfl, q1, q2, q3, q4⟩
 ·-- nil: a new block
  have U : W.heap.size ≤ Q := by
   rcases L with h | h <;> simp [Value.ownBlock] at h
   omega
  have hex : Ex dd W W' := ⟨s.os, s.tape, s.output, jT.of ae, s.size, fun b n => s.block b n (by simp [Value.ownBlock])⟩
  have h1 := p.wh hex
  refine ⟨h1.os, h1.tape, h1.output, h1.drawn, h1.size, h1.jl, h1.mem, fun b o n => ?_, ?_⟩
  ·simp only [aV, aN] at n
   rcases n with n | n | n
   ·exact h1.box b o (by simp [n])
   ·cases n
    refine ⟨ag, ?_, .inl (bD p.size U)⟩
    cases hm : μ Q with
    | none => rfl
    | some x => have := p.qz hm; omega
   ·exact h1.box b o (by simp [n])
  ·simp only [ct, bf, aR, List.singleton_append] at aq ⊢
   refine (dK dC).2 (bX.2 ⟨fun hm => ?_, aq⟩)
   rw [← bf] at hm
   obtain ⟨⟨b, o⟩, n, J⟩ := aP.1 hm
   have b2 : (b, o) ∈ X ++ ([] ++ Y) := by simpa using n
   have := p.rJ b2
   simp at J
   omega
 ·by_cases an : Q = g
  ·subst an
   have M : ST dd F w W μ (X ++ (Q, Obj.cells I e (0, 0)) :: Y) := by simpa using p
   have hold : ∀ b, b < W.heap.size → b ≠ Q → W'.heap[b]? = W.heap[b]? := fun b n G => s.block b n (by simp [Value.ownBlock]; exact G)
   have D := M.nd
   simp only [bf, aR] at D
   have G : ∀ b o, (b, o) ∈ X ++ Y → b ≠ Q := fun b o n J => by
    subst J
    rcases aV.1 n with n | n
    ·exact (bd.1 D).2.2 b (aP.2 ⟨_, n, rfl⟩) b (by simp) rfl
    ·exact (bX.1 (bd.1 D).2.1).1 (aP.2 ⟨_, n, rfl⟩)
   have O := M.box Q (Obj.cells I e (0, 0)) (by simp)
   refine ⟨s.os.trans p.os, s.tape.trans p.tape, s.output.trans p.output, jT.trans p.drawn (jT.of ae), bD p.size s.size, fun b n hF => ?_, fun b o n => ?_, fun b o n => ?_, by simpa using D⟩
   ·rw [hold b (bG n p.size) (fun J => by subst J; rcases O.2.2 with h | h; omega; exact hF h)]
    exact p.jl b n hF
   ·rw [hold b (p.qz n) (fun J => by subst J; rw [O.2.1] at n; cases n)]
    exact p.mem b o n
   ·simp only [aV, aN] at n
    rcases n with n | n | n
    ·obtain ⟨Z, r2⟩ := p.box b o (by simp [n])
     exact ⟨by rw [hold b (gj Z) (G b o (by simp [n]))]; exact Z, r2⟩
    ·cases n; exact ⟨ag, O.2⟩
    ·obtain ⟨Z, r2⟩ := p.box b o (by simp [n])
     exact ⟨by rw [hold b (gj Z) (G b o (by simp [n]))]; exact Z, r2⟩
  ·have U : W.heap.size ≤ Q := by
    rcases L with h | h <;> simp [Value.ownBlock] at h
    ·exact absurd h an
    ·omega
   have M : ST dd F w W μ (X ++ (g, Obj.cells I e (0, 0)) :: Y) := by simpa using p
   have O := M.box g (Obj.cells I e (0, 0)) (by simp)
   have D := M.nd
   simp only [bf, aR] at D
   have G : ∀ b o, (b, o) ∈ X ++ Y → b ≠ g := fun b o n J => by
    subst J
    rcases aV.1 n with n | n
    ·exact (bd.1 D).2.2 b (aP.2 ⟨_, n, rfl⟩) b (by simp) rfl
    ·exact (bX.1 (bd.1 D).2.1).1 (aP.2 ⟨_, n, rfl⟩)
   have hold : ∀ b, b < W.heap.size → b ≠ g → W'.heap[b]? = W.heap[b]? := fun b n G => s.block b n (by simp [Value.ownBlock]; exact G)
   refine ⟨s.os.trans p.os, s.tape.trans p.tape, s.output.trans p.output, jT.trans p.drawn (jT.of ae), bD p.size s.size, fun b n hF => ?_, fun b o n => ?_, fun b o n => ?_, ?_⟩
   ·rw [hold b (bG n p.size) (fun J => by subst J; rcases O.2.2 with h | h; omega; exact hF h)]
    exact p.jl b n hF
   ·rw [hold b (p.qz n) (fun J => by subst J; rw [O.2.1] at n; cases n)]
    exact p.mem b o n
   ·simp only [aV, aN] at n
    rcases n with n | n | n
    ·obtain ⟨Z, r2⟩ := p.box b o (by simp [n])
     exact ⟨by rw [hold b (gj Z) (G b o (by simp [n]))]; exact Z, r2⟩
    ·cases n
     refine ⟨ag, ?_, .inl (bD p.size U)⟩
     cases hm : μ Q with
     | none => rfl
     | some x => have := p.qz hm; omega
    ·obtain ⟨Z, r2⟩ := p.box b o (by simp [n])
     exact ⟨by rw [hold b (gj Z) (G b o (by simp [n]))]; exact Z, r2⟩
   ·have b1 : (X.map (·.1) ++ Y.map (·.1)).Nodup := (bX.1 ((dK dC).1 D)).2
    simp only [bf, aR, List.singleton_append]
    refine (dK dC).2 (bX.2 ⟨fun hm => ?_, b1⟩)
    rw [← bf] at hm
    obtain ⟨⟨b, o⟩, n, J⟩ := aP.1 hm
    have := p.rJ (b := b) (o := o) (by rcases aV.1 n with h | h <;> simp [h])
    simp at J
    omega
end
end Go.Proofs.Ytcafmokjkjcomaa
namespace Go.Proofs.Ytcafmokjkjcomaa
open Go.RowKit
def lp (l : List Value) : Nat → Value := fun t => l.getD t undef
def lo (P : Program) (fn : Func) (R : Ending → World → Prop) : gn
 | .normal, E, W | .ret, E, W => ∃ v, (∀ tmps : Array Value, (∀ t, tmps.getD t undef = E t) → (results fn tmps).run P W = .ok v W) ∧ R (.returned v) W
 | _, _, _ => False
theorem ml {P : Program} {f : FuncId} {fn : Func} {c : Code} {args : List Value} {w : World} {R : Ending → World → Prop} {n : Nat} (q : P.funcs[f]? = some fn) (p : fn.body = some c) (u : fn.ntmps = n) (s : args.length ≤ n) (h : CW P n c (lo P fn R) (lp args) w) : Calls P f args.toArray w R := by
 refine calls_of_wp q p ?_
 have j : Ag n { tmps := args.toArray ++ Array.replicate (fn.ntmps - args.toArray.size) undef, defers := [] } (lp args) := by
  refine ⟨by simp; omega, rfl, fun t => ?_⟩
  simp only [lp, bn, de, cT, dn, bM, cU]
  by_cases o : t < args.length
  ·rw [aD o]
  ·rw [aF o, cd (by omega)]
   split <;> simp
 refine dq (h _ j) (fun e a x g => ?_)
 cases e with
 | normal =>
  obtain ⟨E, d, v, k, i⟩ := g
  exact ⟨d.2.1, v, k _ d.2.2, i⟩
 | ret =>
  obtain ⟨E, d, v, k, i⟩ := g
  exact ⟨d.2.1, v, k _ d.2.2, i⟩
 | exit id => obtain ⟨E, d, h⟩ := g; exact h.elim
 | goto l => obtain ⟨E, d, h⟩ := g; exact h.elim
 | panic c => exact g.2.elim
 | outgrown => exact g.elim
section
variable {P : Program} {fn : Func} {R : Ending → World → Prop} {E : Nat → Value} {W : World}
theorem fL {r : Tmp} {v : Value} (a : fn.results = #[.tmp r]) (d : E r = v) (h : R (.returned v) W) : lo P fn R .ret E W :=
 ⟨v, fun tmps c => by rw [results_tmp a, c, d], h⟩
theorem ny {r s : Tmp} {v u : Value} (c : fn.results = #[.tmp r, .tmp s]) (d : E r = v) (hu : E s = u) (h : R (.returned (.tuple #[v, u])) W) : lo P fn R .ret E W :=
 ⟨.tuple #[v, u], fun tmps a => by rw [results_tmp2 c, a, a, d, hu], h⟩
theorem uy (a : fn.results = #[]) (h : R (.returned (.tuple #[])) W) : lo P fn R .ret E W :=
 ⟨.tuple #[], fun tmps _ => by rw [results_none a], h⟩
theorem lK {r : Tmp} {t : TypeId} {a : Addr} {v : Value} (c : fn.results = #[.cell r t]) (i : E r = .pointer (some a)) (g : (Instr.loadAt t (.pointer (some a))).run P W = .ok v W) (h : R (.returned v) W) : lo P fn R .ret E W :=
 ⟨v, fun tmps d => by
  have h1 : (loadVar t a).run P W = .ok v W := by simpa [Instr.loadAt, Instr.sureAddr] using g
  simp [results, c, d, i, asAddr, h1], h⟩
theorem uF (h : lo P fn R .ret E W) : lo P fn R .normal E W := h
end
section
variable {Q : gn} {E : Nat → Value} {W : World} {K : (Nat → Value) → World → Prop} {id j : Nat}
theorem gF (h : Q .normal E W) : lc id Q .normal E W := h
theorem kI (h : Q .ret E W) : lc id Q .ret E W := h
theorem st (h : Q .normal E W) : lc id Q (.exit id) E W := by simp [lc]; exact h
theorem AW (a : (j = id) = False) (h : Q (.exit j) E W) : lc id Q (.exit j) E W := by simp only [lc, a, aQ]; exact h
theorem fj (h : K E W) : gS K Q .normal E W := h
theorem ga (h : Q .ret E W) : gS K Q .ret E W := h
theorem nG (h : Q (.exit j) E W) : gS K Q (.exit j) E W := h
end
theorem wK {i N : Nat} (c : i < N) (a : N ≤ 9223372036854775807) : IntKind.i64.wrap ((i : Int) + 1) = ((i + 1 : Nat) : Int) := by
 rw [IntWalk.i64_in _ (by omega)]
 omega
theorem jN {P : Program} {n : Nat} {Q : gn} {E : Nat → Value} {W : World} {g s T U o p A u : Nat} {t1 t2 t3 t4 t5 t6 t7 : TypeId} {M O R : String} {f1 f2 f3 : Array Edge} {body : Code} (I : Nat → (Nat → Value) → World → Prop) (N : Nat) (J : N ≤ 9223372036854775807) (D : I 0 E W) (K : o < n) (L : u < n) (z : p < n) (G : ∀ i E W, I i E W → E p = .int .i64 (i : Nat) ∧ E A = .int .i64 (N : Nat)) (round : ∀ i E W, i < N → I i E W → CW P n (.block s body) (gS (fun E' W' => E' p = .int .i64 (i : Nat) ∧ I (i + 1) (gb (gb E' u (.int .i64 ((i + 1 : Nat) : Int))) p (.int .i64 ((i + 1 : Nat) : Int))) W') (lc g Q)) (gb E o (.bool true)) W) (done : ∀ E W, I N E W → Q .normal (gb E o (.bool false)) W) :
  CW P n (.block g (.loop (.seq (.region T #[⟨some o, .binOp .lss t1 (.tmp p) (.tmp A) t2, t3, M, f1, none⟩] false)
   (.seq (.cond (.tmp o) .skip (.exit g)) (.seq (.block s body)
    (.region U #[⟨some u, .binOp .add t4 (.tmp p) (.const (.int .i64 1)) t5, t6, O, f2, none⟩, ⟨some p, .move (.tmp u), t7, R, f3, none⟩] false)))))) Q E W := by
 refine kq (nV (fun m E W => ∃ i, i ≤ N ∧ m = N - i ∧ I i E W) N ⟨0, db _, by omega, D⟩ ?_)
 rintro m E W ⟨i, Y, rfl, d⟩
 obtain ⟨w, x⟩ := G i E W d
 refine fm (eW (sM (.inl rfl) rfl K (gi w x rfl) (fB ?_)))
 refine fj (fm ?_)
 have t : gb E o (.bool (decide ((i : Int) < (N : Int)))) o = .bool (decide ((i : Int) < (N : Int))) := by simp [gb]
 by_cases q : i < N
 ·have y : decide ((i : Int) < (N : Int)) = true := by simp; omega
  rw [y] at t ⊢
  refine nO t (gH (fj (fm ?_)))
  refine sA (round i E W q d) (fun e E' W' h => ?_)
  cases e with
  | normal =>
   obtain ⟨h1, F⟩ := h
   refine fj ?_
   have hw : IntKind.i64.wrap ((i : Int) + 1) = ((i + 1 : Nat) : Int) := wK q J
   refine eW (sM (v := .int .i64 ((i + 1 : Nat) : Int)) (.inl rfl) rfl L (gi (k := .i64) (a := (i : Int)) (b := 1) h1 rfl (by simp only [tw, hw])) ?_)
   refine sM (v := .int .i64 ((i + 1 : Nat) : Int)) (.inl rfl) rfl z (eZ (by simp [eL, gb])) (fB ?_)
   exact fj ⟨N - (i + 1), by omega, i + 1, by omega, rfl, F⟩
  | exit j => exact h
  | goto l => exact h
  | ret => exact h
  | panic c => exact h
  | outgrown => exact h
 ·have y : decide ((i : Int) < (N : Int)) = false := by simp; omega
  rw [y] at t ⊢
  obtain rfl : i = N := by omega
  refine jD t (nU (nG (nG (st ?_))))
  exact done E W d
theorem xb {P : Program} {n : Nat} {x : Code} {Q : gn} {K : (Nat → Value) → World → Prop} {E : Nat → Value} {W : World} (J : (Nat → Value) → World → Prop) (h : CW P n x (gS J Q) E W) (k : ∀ E W, J E W → K E W) : CW P n x (gS K Q) E W :=
 sA h (fun e E W h => by cases e <;> first | exact k E W h | exact h)
theorem zg {α : Type} {c : Bool} {x y r : α} (a : c = true) (h : (if c = true then x else y) = r) : x = r := by rw [aD a] at h; exact h
theorem zk {α : Type} {c : Bool} {x y r : α} (a : c = false) (h : (if c = true then x else y) = r) : y = r := by rw [aF (by rw [a]; decide)] at h; exact h
theorem bind_some {α β : Type} {o : Option α} {f : α → Option β} {r : β} (h : o.bind f = some r) : ∃ y, o = some y ∧ f y = some r := by
 cases o with
 | none => cases h
 | some y => exact ⟨y, rfl, h⟩
theorem wu (b : Bool) : b = true ∨ b = false := by cases b <;> simp
theorem jf {α : Type} {l : List α} {i : Nat} (h : i < l.length) : ∃ x xs, l.drop i = x :: xs ∧ l[i]? = some x ∧ l.drop (i + 1) = xs := by
 cases a : l.drop i with
 | nil => have := aG List.length a; simp at this; omega
 | cons x xs => exact ⟨x, xs, rfl, by rw [← List.head?_drop, a]; rfl, by rw [← List.drop_drop, a]; rfl⟩
theorem qh {P : Program} {W : World} (d : Nat) (xs ys : Array Value) : (Op.eqFields d xs ys []).run P W = .ok true W := by simp [Op.eqFields]
theorem iK {P : Program} {W : World} {d : Nat} {xs ys : Array Value} {f : Field} {c : List Field} {a b : Value} {r s : Bool} (j : f.name ≠ "_") (g : (part f.type xs f.offset).run P W = .ok a W) (i : (part f.type ys f.offset).run P W = .ok b W) (he : (Op.equalIn d f.type a b).run P W = .ok r W) (h : (Op.eqFields d xs ys c).run P W = .ok s W) : (Op.eqFields d xs ys (f :: c)).run P W = .ok (r && s) W := by
 simp only [Op.eqFields, ne_eq, j, not_false_eq_true, aT, aX, g, i, he, aJ]
 cases r <;> simp [h]
theorem nc {P : Program} {W : World} {t : TypeId} {k : Nat} {cs : Array Value} {off : Nat} {v : Array Value} (a : ∀ w, (isAgg t).run P w = .ok true w) (c : ∀ w, (sizeOf t).run P w = .ok k w) (d : cs.extract off (off + k) = v) : (part t cs off).run P W = .ok (.agg v) W := by
 simp [part, a W, c W, d]
theorem ku {P : Program} {W : World} {t : TypeId} {cs : Array Value} {off : Nat} {v : Value} (a : ∀ w, (isAgg t).run P w = .ok false w) (c : cs[off]? = some v) : (part t cs off).run P W = .ok v W := by
 simp [part, a W, c]
def fF (a b : ByteArray) : Bool := a.toList == b.toList
theorem yy {P : Program} {t : TypeId} (c : P.underlying t = some .string) (d : Nat) (a b : ByteArray) (W : World) : (Op.equalIn (d + 1) t (.string a) (.string b)).run P W = .ok (fF a b) W := run_equalIn_string W d t a b c
theorem A7 {P : Program} {t : TypeId} {k : IntKind} (c : P.underlying t = some (.int k)) (d : Nat) (a b : Int) (W : World) : (Op.equalIn (d + 1) t (.int k a) (.int k b)).run P W = .ok (a == b) W := run_equalIn_int W d t k k a b c
theorem nq {P : Program} {op : BinOp} {t : TypeId} {x y : Operand} {a b : Array Value} (c : P.eqGuardType P.depth t = false) (W : World) : (eqGuard op t x y (.agg a) (.agg b)).run P W = .ok () W := by
 cases op <;> simp [eqGuard] <;> (intro h; rw [c] at h; cases h)
theorem qD {P : Program} {t : TypeId} {a b : Array Value} {r : Bool} (h : ∀ W, (Op.equalIn Op.maxDepth t (.agg a) (.agg b)).run P W = .ok r W) (W : World) : (binOp .eql t (.agg a) (.agg b)).run P W = .ok (.bool r) W := by
 simp [binOp, Op.equal, h W]
theorem yM {P : Program} {t : TypeId} {a b : Array Value} {r : Bool} (h : ∀ W, (Op.equalIn Op.maxDepth t (.agg a) (.agg b)).run P W = .ok r W) (W : World) : (binOp .neq t (.agg a) (.agg b)).run P W = .ok (.bool !r) W := by
 simp [binOp, Op.equal, h W]
variable {dd : Bool}
def eQ (k : IntKind) (x : Int) : List Value := [.int k x]
def oH (x : ByteArray) : List Value := [.string x]
theorem sL (k : IntKind) (x : Int) : ∀ u ∈ eQ k x, u.oneCell' = true := by intro u hu; simp [eQ] at hu; subst hu; rfl
theorem vO (x : ByteArray) : ∀ u ∈ oH x, u.oneCell' = true := by intro u hu; simp [oH] at hu; subst hu; rfl
def zS : ByteArray := ⟨#[]⟩
def nM (a b : ByteArray) : Bool := Op.bytesLess a.toList b.toList
@[irreducible] def iu : Nat := 18446744073709551616
theorem lX : iu = 18446744073709551616 := by unfold iu; rfl
def ju {α : Type} (l : List α) (i : Int) : Option α := if 0 ≤ i then l[i.toNat]? else none
theorem iV {α : Type} {l : List α} {i : Int} {x : α} (h : ju l i = some x) : 0 ≤ i := by
 unfold ju at h; split at h
 ·assumption
 ·cases h
theorem gQ {α : Type} {l : List α} {i : Int} {x : α} (h : ju l i = some x) : l[i.toNat]? = some x := by
 unfold ju at h; split at h
 ·exact h
 ·cases h
theorem sr {α : Type} (l : List α) (i : Nat) : ju l (i : Int) = l[i]? := by simp [ju]
def nf (s : ByteArray) (i : Int) : Option UInt8 := if 0 ≤ i then s[i.toNat]? else none
theorem ve {s : ByteArray} {i : Int} {x : UInt8} (h : nf s i = some x) : 0 ≤ i := by
 unfold nf at h; split at h
 ·assumption
 ·cases h
theorem xA {s : ByteArray} {i : Int} {x : UInt8} (h : nf s i = some x) : s[i.toNat]? = some x := by
 unfold nf at h; split at h
 ·exact h
 ·cases h
section
variable {F : Nat → Prop} {w W : World} {μ : eV} {L L' : List (Nat × Obj)} {α : Type} {e : TypeId} {enc : α → List Value} {k : Nat} {v : Value} {l : List α} {R : List (Nat × Obj)}
theorem ST.at_ (h : ST dd F w W μ L) {b : Nat} {o : Obj} (a : (b, o) ∈ L) : hp W b = some o := (h.box b o a).1
theorem fp.form (h : fp e enc k v l R) : ∃ A c, v = .slice A l.length c := by
 rcases h with ⟨rfl, rfl, rfl⟩ | ⟨g, cap, a, rfl, rfl, h1, d, i, j⟩
 ·exact ⟨_, _, rfl⟩
 ·exact ⟨_, _, rfl⟩
theorem Sl.form {R : jg α} (h : Sl R k μ v l) : ∃ A c, v = .slice A l.length c := let ⟨A, c, h, _⟩ := h; ⟨A, c, h⟩
theorem fp.yo (h : fp e enc k v l R) (c : ST dd fY w W μ L) (i : ∀ p, p ∈ R → p ∈ L) : Fr w.heap.size v := by
 rcases h with ⟨rfl, rfl, rfl⟩ | ⟨g, cap, a, rfl, rfl, h1, j, n, o⟩
 ·exact Fr.nil _
 ·intro b d
  simp [Value.ownBlock] at d
  subst d
  rcases (c.box g (.cells a e (0, 0)) (i _ (aN.2 rfl))).2.2 with h | h
  ·exact h
  ·exact h.elim
theorem Sl.lit {b m : Nat} {cs : Array Value} (hk : ∀ x, (enc x).length = k) (hm : l.length = m) (c : m ≤ maxLen) (a : cs.toList = (l.map enc).flatten) (d : μ b = some (.cells cs e (0, 0))) : Sl (Pl enc) k μ (.slice (some ⟨b, 0, none⟩) m m) l :=
 (fp.lit (e := e) (b := b) hm c a (by have := aG List.length a; rw [ko hk, bz, hm] at this; exact this)).sl hk (fun g o h => by simp at h; obtain ⟨rfl, rfl⟩ := h; exact d)
theorem Fr.box (h : ST dd fY w W μ L) {b m c : Nat} {o : Obj} (d : (b, o) ∈ L) : Fr w.heap.size (.slice (some ⟨b, 0, none⟩) m c) := by
 intro g a
 simp [Value.ownBlock] at a
 subst a
 rcases (h.box b o d).2.2 with h | h
 ·exact h
 ·exact h.elim
theorem ST.perm (h : ST dd F w W μ L) (hp : L.Perm L') : ST dd F w W μ L' :=
 ⟨h.os, h.tape, h.output, h.drawn, h.size, h.jl, h.mem, fun b o a => h.box b o (hp.mem_iff.2 a), (hp.map _).nodup_iff.1 h.nd⟩
theorem ST.sublist (h : ST dd F w W μ L) (a : L'.Sublist L) : ST dd F w W μ L' :=
 ⟨h.os, h.tape, h.output, h.drawn, h.size, h.jl, h.mem, fun b o c => h.box b o (a.subset c), h.nd.sublist (a.map _)⟩
end
section
variable {E : Nat → Value} {x1 x2 x3 x4 x5 x6 : Operand} {v1 v2 v3 v4 v5 v6 : Value}
theorem jA (h1 : eL E x1 = v1) : #[x1].map (eL E) ++ (#[] : Array Value) = [v1].toArray := by simp [h1]
theorem jC (h1 : eL E x1 = v1) (a : eL E x2 = v2) : #[x1, x2].map (eL E) ++ (#[] : Array Value) = [v1, v2].toArray := by simp [h1, a]
end
theorem sX : ∀ (v : List Value) (i off : Nat) (cells : Array Value), off + i + v.length ≤ cells.size →
  (v.zipIdx i).foldl (fun cs (c, j) => cs.setIfInBounds (off + j) c) cells = (cells.toList.take (off + i) ++ v ++ cells.toList.drop (off + i + v.length)).toArray
 | [], i, off, cells, h => by simp
 | c :: v, i, off, cells, h => by
  simp only [List.zipIdx_cons, ez]
  simp only [aS] at h
  rw [sX v (i + 1) off _ (by simp; omega)]
  have g : off + i < cells.toList.length := by simp; omega
  congr 1
  rw [Array.toList_setIfInBounds]
  apply cC
  intro j
  have k : (cells.toList.take (off + i)).length = off + i := by simp; omega
  by_cases h1 : j < off + i
  ·simp only [cZ, aH, bt, dI, bz, aS, cx, cV, cg]
   rw [show min (off + (i + 1)) cells.size = off + (i + 1) by omega, show min (off + i) cells.size = off + i by omega]
   rw [aD (by omega), aD (by omega), aD (by omega), aF (by omega), aD (by omega), aD (by omega), aD (by omega)]
  ·by_cases d : j = off + i
   ·subst d
    simp [cZ, cx, cV, show off + i < off + (i + 1) by omega]
    rw [aD (by omega), aD (by omega), aF (by omega), show off + i - min (off + i) cells.size = 0 by omega]
    rfl
   ·simp only [cZ, aH, bt, dI, bz, aS, cx, cV, cg]
    rw [show min (off + (i + 1)) cells.size = off + (i + 1) by omega, show min (off + i) cells.size = off + i by omega]
    by_cases a : j < off + (i + 1) + v.length
    ·rw [aD a, aF (by omega), aD (by omega), aF (by omega)]
     rw [show j - (off + i) = (j - (off + (i + 1))) + 1 by omega]
     simp
    ·rw [aF a, aF (by omega), aF (by omega)]
     congr 1
     omega
theorem tY {k : Nat} : ∀ (vs : List Value) (i : Nat) (pre rest : List Value), (∀ v ∈ vs, v.cells.size = k) → pre.length = i * k → rest.length = vs.length * k →
  Instr.fill (fun i => some (i * k, k)) (pre ++ rest).toArray ((vs.zipIdx i).map (fun p => (p.2, p.1))) = some (pre ++ vs.flatMap (fun v => v.cells.toList)).toArray
 | [], i, pre, rest, g, hp, d => by
  have : rest = [] := by cases rest <;> simp at d ⊢
  simp [Instr.fill, this]
 | v :: vs, i, pre, rest, g, hp, d => by
  have a := g v (by simp)
  have h : v.cells.zipIdx.foldl (fun cs (c, j) => cs.setIfInBounds (i * k + j) c) (pre ++ rest).toArray = (pre ++ v.cells.toList ++ rest.drop k).toArray := by
   have := sX v.cells.toList 0 (i * k) (pre ++ rest).toArray (by simp [hp, d, a, bp])
   rw [← Array.toList_zipIdx, Array.foldl_toList] at this
   rw [this]
   congr 1
   simp [← hp, a]
  simp only [List.zipIdx_cons, aR, Instr.fill]
  rw [aF (by simp [a, hp, d, bp]), h]
  have := tY vs (i + 1) (pre ++ v.cells.toList) (rest.drop k) (fun u hu => g u (by simp [hu])) (by simp [hp, a, bp]) (by simp [d, bp])
  rw [this]
  simp
theorem xG {k m : Nat} {a cs : Array Value} {qs : Array (Nat × Value)} (vs : List Value) (d : qs.toList = vs.zipIdx.map (fun p => (p.2, p.1))) (h : ∀ v ∈ vs, v.cells.size = k) (hm : vs.length = m) (g : a.size = m * k) (c : (vs.flatMap (fun v => v.cells.toList)).toArray = cs) : Instr.fill (fun i => some (i * k, k)) a qs.toList = some cs := by
 subst hm c
 rw [d]
 have := tY vs 0 [] a.toList h (by simp) (by simpa using g)
 simpa using this
theorem lj {P : Program} {t e : TypeId} {m k : Nat} {z : Value} {qs : Array (Nat × Value)} {cs : Array Value} (vs : List Value) (h : P.underlying t = some (.slice e)) (g : ∀ w, (sizeOf e).run P w = .ok k w) (j : ∀ w, (zeroValue e).run P w = .ok z w) (hm : m * k ≤ 16777216) (d : qs.toList = vs.zipIdx.map (fun p => (p.2, p.1))) (i : ∀ v ∈ vs, v.cells.size = k) (c : vs.length = m) (a : (vs.flatMap (fun v => v.cells.toList)).toArray = cs) (W : World) :
  (Instr.buildSlice t m qs).run P W = .ok (.slice (some ⟨W.heap.size, 0, none⟩) m m) (W.alloc (.cells cs e (0, 0))) :=
 so h g j hm (xG vs d i c (by simp) a) W
theorem nz {E : Nat → Value}  : (#[] : Array (Nat × Operand)).map (fun (i, x) => (i, eL E x)) = #[] := by simp
theorem jc {E : Nat → Value} {x0 : Operand} {v0 : Value} {i0 : Nat} (a : eL E x0 = v0) : (#[(i0, x0)] : Array (Nat × Operand)).map (fun (i, x) => (i, eL E x)) = #[(i0, v0)] := by simp [a]
theorem kB {E : Nat → Value} {x0 x1 : Operand} {v0 v1 : Value} {i0 i1 : Nat} (a : eL E x0 = v0) (h1 : eL E x1 = v1) : (#[(i0, x0), (i1, x1)] : Array (Nat × Operand)).map (fun (i, x) => (i, eL E x)) = #[(i0, v0), (i1, v1)] := by simp [a, h1]
theorem zW {E : Nat → Value} {x0 x1 x2 : Operand} {v0 v1 v2 : Value} {i0 i1 i2 : Nat} (a : eL E x0 = v0) (h1 : eL E x1 = v1) (c : eL E x2 = v2) : (#[(i0, x0), (i1, x1), (i2, x2)] : Array (Nat × Operand)).map (fun (i, x) => (i, eL E x)) = #[(i0, v0), (i1, v1), (i2, v2)] := by simp [a, h1, c]
theorem zf {E : Nat → Value} {x0 x1 x2 x3 : Operand} {v0 v1 v2 v3 : Value} {i0 i1 i2 i3 : Nat} (a : eL E x0 = v0) (h1 : eL E x1 = v1) (c : eL E x2 = v2) (d : eL E x3 = v3) : (#[(i0, x0), (i1, x1), (i2, x2), (i3, x3)] : Array (Nat × Operand)).map (fun (i, x) => (i, eL E x)) = #[(i0, v0), (i1, v1), (i2, v2), (i3, v3)] := by simp [a, h1, c, d]
theorem fV {P : Program} {t : TypeId} {f off : Nat} {a : Array Field} {fd : Field} (h : P.underlying t = some (.struct a)) (c : a[f]? = some fd) {k : Nat} (g : ∀ w, (sizeOf fd.type).run P w = .ok k w) (hk : k ≠ 0) (d : fd.offset = off) : gA P t f off := by
 intro b o w
 subst d
 simp [Instr.fieldAt, aA h, c, Instr.sureAddr, fieldPlace, cj, g w, hk]
theorem zZ {P : Program} {n : Nat} {Q : gn} {E : Nat → Value} {W : World} {ops : Array Oper} {rest : List Oper} {A : Value → Prop} {o : Oper} {dd : Nat} (hw : gE n ops E o) (c : o.dst = some dd) (d : dd < n) (g : ∃ p, A p ∧ ∀ W, fC P E o W p W) (h : ∀ p, A p → LW P n ops Q rest (gb E dd p) W) : LW P n ops Q (o :: rest) E W := by
 obtain ⟨p, h1, a⟩ := g
 exact sM hw c d (a W) (h p h1)
end Go.Proofs.Ytcafmokjkjcomaa
namespace Go.Proofs.Ytcafmokjkjcomaa
open Go.RowKit
variable {dd : Bool}
theorem yT {P : Program} {n : Nat} {x : Code} {Q : gn} {E : Nat → Value} {W : World} (h : CW P n x (gS (fun E W => Q .normal E W) Q) E W) : CW P n x Q E W :=
 sA h (fun e E W h => by cases e <;> exact h)
section
variable {P : Program} {n : Nat} {Q : gn} {E : Nat → Value} {W : World} {d : Option Nat} {ty : TypeId} {pos : String} {af : Array Edge} {g : Option (Nat × Bool)}
 {F : Nat → Prop} {w : World} {μ : eV} {L : List (Nat × Obj)}
def yq (k : IntKind) (op : BinOp) (a b : Int) : Option Value :=
 match op with
 | .quo => some (.int k (k.wrap (a.tdiv b)))
 | .rem => some (.int k (a.tmod b))
 | .and => some (.int k (k.wrap (BitVec.ofInt k.bits a &&& BitVec.ofInt k.bits b).toNat))
 | .or => some (.int k (k.wrap (BitVec.ofInt k.bits a ||| BitVec.ofInt k.bits b).toNat))
 | _ => none
theorem yz {op : BinOp} {tx tv : TypeId} {x y : Operand} {k : IntKind} {a b : Int} {v : Value} (i : eL E x = .int k a) (j : eL E y = .int k b) (h : b ≠ 0) (c : yq k op a b = some v) :
  fC P E ⟨d, .binOp op tx x y tv, ty, pos, af, g⟩ W v W := by
 show (do let r ← (do eqGuard op tx x y (eL E x) (eL E y); binOp op tx (eL E x) (eL E y)); pure (.value r) : Sem Next).run P W = _
 rw [i, j]
 cases op <;> simp [yq] at c <;> subst c <;> simp [eqGuard, binOp, Op.intDiv, Op.intBits, h]
theorem yt {tx tv : TypeId} {x y : Operand} {k k' : IntKind} {a b : Int} (c : eL E x = .int k a) (h : eL E y = .int k' b) (i : 0 ≤ b) :
  fC P E ⟨d, .binOp .shr tx x y tv, ty, pos, af, g⟩ W (.int k (a.fdiv (2 ^ min b.toNat k.bits))) W := by
 show (do let r ← (do eqGuard .shr tx x y (eL E x) (eL E y); binOp .shr tx (eL E x) (eL E y)); pure (.value r) : Sem Next).run P W = _
 rw [c, h]
 simp [eqGuard, binOp, Op.shift, show ¬ b < 0 by omega]
theorem mF {s t : TypeId} {x : Operand} {k k' : IntKind} {a : Int} {u : TypeDesc} (c : P.underlying s = some u) (h : P.underlying t = some (.int k)) (i : eL E x = .int k' a) :
  fC P E ⟨d, .convert s t x, ty, pos, af, g⟩ W (.int k (k.wrap a)) W := by
 show (do pure (.value (← convert s t (eL E x))) : Sem Next).run P W = _
 rw [i]
 simp [convert, aA c, aA h, Conv.intToInt]
theorem sD {t e : TypeId} (dd : Nat) (a : P.underlying t = some (.slice e)) (A : Option Addr) (l c : Nat) (W : World) : (Op.equalIn (dd + 1) t (.slice A l c) (.slice none 0 0)).run P W = .ok A.isNone W := by
 cases A <;> simp [Op.equalIn, aA a]
theorem sQ {tx tv e : TypeId} {x y : Operand} {A : Option Addr} {l c : Nat} (h : P.underlying tx = some (.slice e)) (i : eL E x = .slice A l c) (j : eL E y = .slice none 0 0) :
  fC P E ⟨d, .binOp .eql tx x y tv, ty, pos, af, g⟩ W (.bool A.isNone) W := by
 show (do let r ← (do eqGuard .eql tx x y (eL E x) (eL E y); binOp .eql tx (eL E x) (eL E y)); pure (.value r) : Sem Next).run P W = _
 rw [i, j]
 have a := sD 9999 h A l c W
 simp [eqGuard, binOp, Op.equal, show Op.maxDepth = 9999 + 1 from rfl, a]
def iO (s : ByteArray) : List Int := s.data.toList.map (fun b => (b.toNat : Int))
def pv (s : ByteArray) : Option (List Int) := if s.size ≤ maxLen then some (iO s) else none
theorem gf (s : ByteArray) : (iO s).length = s.size := by simp only [iO, cQ, bz]; rfl
theorem vZ {s : ByteArray} {cap i : Nat} {x : Int} (h : (iO s)[i]? = some x) : (bytesRow s cap)[i]? = some (.int .u8 x) := by
 have d : i < s.size := by have := (aI.1 h).1; rwa [gf] at this
 have a : i < s.data.size := d
 simp [iO] at h
 obtain ⟨b, c, rfl⟩ := h
 rw [bytesRow, Array.getElem?_append_left (by simpa using a)]
 simp [c]
theorem sY {K : Value → World → Prop} {s t e : TypeId} {x : Operand} {str : ByteArray} {l : List Int} (c : ST dd F w W μ L) (q : P.underlying s = some .string) (p : P.underlying t = some (.slice e)) (he : P.underlying e = some (.int .u8)) (n : eL E x = .string str) (a : pv str = some l) (h : ∀ W' v μ', ST dd F w W' μ' L → eT μ μ' → Lo F w μ μ' → Sl (Pl (eQ .u8)) 1 μ' v l → Fr w.heap.size v → K v W') : gK P E ⟨d, .convert s t x, ty, pos, af, g⟩ W K := by
 unfold pv at a
 split at a
 case isFalse => cases a
 rename_i hm
 cases a
 have k := run_bytes_of_string (P := P) W s t e str q p he
 have h1 := c.drew.alloc (.cells (bytesRow str (grownCap W str.size 0 e)) e ((bytesRow str (grownCap W str.size 0 e)).size, (bytesRow str (grownCap W str.size 0 e)).size + 1))
 refine .inl ⟨.slice (some ⟨W.heap.size, 0, none⟩) str.size (grownCap W str.size 0 e), _, ?_, h _ _ _ (ST.qC (A := []) h1) (ST.qy (A := []) h1) (ST.uo (A := []) h1) ?_ ?_⟩
 ·show (do pure (.value (← convert s t (eL E x))) : Sem Next).run P W = _
  rw [n]
  simp only [aX, k, aJ, bL]
 ·refine ⟨_, grownCap W str.size 0 e, by rw [gf], by rw [gf]; exact grownCap_ge W str.size 0 e, grownCap_le_maxLen W str.size 0 e hm, fun _ => ⟨W.heap.size, 0, bytesRow str (grownCap W str.size 0 e), e, _, rfl, aD rfl, fun i x n => ⟨_, rfl, rfl, fun j y o => ?_⟩⟩⟩
  cases j with
  | zero => simp [eQ] at o; subst o; simpa using vZ n
  | succ j => simp [eQ] at o
 ·intro b a
  simp [Value.ownBlock] at a
  subst a
  exact c.size
def jU (l : List Int) : ByteArray := l.foldl (fun r n => r.push (UInt8.ofNat n.toNat)) ByteArray.empty
theorem ph {s t e : TypeId} {x : Operand} {v : Value} {l : List Int} (D : P.underlying s = some (.slice e)) (he : P.underlying e = some (.int .u8)) (z : P.underlying t = some .string) (G : eL E x = v) (F : Sl (Pl (eQ .u8)) 1 (hp W) v l) :
  fC P E ⟨d, .convert s t x, ty, pos, af, g⟩ W (.string (jU l)) W := by
 show (do pure (.value (← convert s t (eL E x))) : Sem Next).run P W = _
 obtain ⟨A, c, rfl, I, J, q⟩ := F
 rw [G]
 simp only [aX, run_convert_bytes_string W s t e A l.length c D he z]
 rcases cw l.length with h | h
 ·have : l = [] := bR.1 h
  subst this
  cases A with
  | none => simp [Conv.bytesToString, jU]
  | some a =>
   have u := run_bytesToString (P := P) W a 0 c [] (by simpa using dR (P := P) W a [] (by simp))
   simp only [bo]
   rw [u]
   simp [jU]
 ·obtain ⟨b, off, cs, T, fr, rfl, w, y⟩ := q h
  have p := dR (P := P) W ⟨b, off, none⟩ (l.map (Value.int .u8)) (fun j v o => by
   simp at o
   obtain ⟨x, k, rfl⟩ := o
   obtain ⟨ys, _, n, i⟩ := y j x k
   cases n
   rw [cj, dY W b (off + j) cs T fr w]
   have := i 0 (.int .u8 x) rfl
   simpa using this)
  simp only [cQ] at p
  rw [run_bytesToString W _ l.length c l p]
  simp [jU]
end
end Go.Proofs.Ytcafmokjkjcomaa
namespace Go.Proofs.Ytcafmokjkjcomaa
open Go.RowKit
variable {dd : Bool}
def keys (L : List (Nat × Obj)) : Nat → Prop := fun b => ∃ o, (b, o) ∈ L
structure Bb (dd : Bool) (F : Nat → Prop) (w W : World) : Prop where
 os : W.os = w.os
 tape : W.tape = w.tape
 output : W.output = w.output
 drawn : jT dd w.drawn W.drawn
 size : w.heap.size ≤ W.heap.size
 jl : ∀ b, b < w.heap.size → ¬ F b → W.heap[b]? = w.heap[b]?
def pD (L : List (Nat × Obj)) (W : World) : Prop := ∀ b o, (b, o) ∈ L → W.heap[b]? = some o
structure iF (dd : Bool) (L0 L1 : List (Nat × Obj)) (w w' : World) : Prop where
 ex : Bb dd (keys L0) w w'
 held : ∀ b o, (b, o) ∈ L1 → w'.heap[b]? = some o ∧ (w.heap.size ≤ b ∨ keys L0 b)
 nd : (L1.map (·.1)).Nodup
open Classical in
noncomputable def iR (w : World) (L : List (Nat × Obj)) : eV := fun b => if keys L b then none else w.heap[b]?
open Classical in
noncomputable def oz (μ : eV) (W W' : World) (L1 : List (Nat × Obj)) : eV := fun b => if b < W.heap.size then μ b else if keys L1 b then none else W'.heap[b]?
section
variable {F : Nat → Prop} {w W W' : World} {μ μ' : eV} {L L0 L1 : List (Nat × Obj)}
theorem ST.zw (a : pD L0 w) (c : (L0.map (·.1)).Nodup) : ST dd (keys L0) w w (iR w L0) L0 :=
 ⟨rfl, rfl, rfl, jT.of (aM _), aM _, fun _ _ _ => rfl, fun b o h => by
  unfold iR at h; split at h
  ·cases h
  ·exact h, fun b o h => ⟨a b o h, by unfold iR; rw [aD ⟨o, h⟩], .inr ⟨o, h⟩⟩, c⟩
theorem ST.ze (h : ST dd (keys L0) w W μ L1) : iF dd L0 L1 w W :=
 ⟨⟨h.os, h.tape, h.output, h.drawn, h.size, h.jl⟩, fun b o a => ⟨(h.box b o a).1, (h.box b o a).2.2⟩, h.nd⟩
theorem qF {A B : List (Nat × Obj)} (h : ((A ++ B).map (·.1)).Nodup) {b : Nat} {o : Obj} (a : (b, o) ∈ B) : ¬ keys A b := by
 rintro ⟨d, c⟩
 rw [bf] at h
 exact (bd.1 h).2.2 b (aP.2 ⟨_, c, rfl⟩) b (aP.2 ⟨_, a, rfl⟩) rfl
theorem ST.back (h : ST dd F w W μ (L0 ++ L)) (j : iF dd L0 L1 W W') : ST dd F w W' (oz μ W W' L1) (L1 ++ L) := by
 have hk : ∀ b, keys L0 b → b < W.heap.size ∧ μ b = none ∧ (w.heap.size ≤ b ∨ F b) := fun b ⟨o, d⟩ => by
  obtain ⟨h1, g, p⟩ := h.box b o (aW _ d)
  exact ⟨gj h1, g, p⟩
 refine ⟨j.ex.os.trans h.os, j.ex.tape.trans h.tape, j.ex.output.trans h.output, jT.trans h.drawn j.ex.drawn, bD h.size j.ex.size, fun b i q => ?_, fun b o d => ?_, fun b o d => ?_, ?_⟩
 ·rw [j.ex.jl b (bG i h.size) (fun k => by
   rcases (hk b k).2.2 with h | h
   ·omega
   ·exact q h)]
  exact h.jl b i q
 ·unfold oz at d
  split at d
  ·rename_i i
   rw [j.ex.jl b i (fun k => by rw [(hk b k).2.1] at d; cases d)]
   exact h.mem b o d
  ·split at d
   ·cases d
   ·exact d
 ·rcases aV.1 d with d | d
  ·obtain ⟨h1, g⟩ := j.held b o d
   refine ⟨h1, ?_, ?_⟩
   ·unfold oz
    split
    ·rename_i i
     rcases g with g | g
     ·omega
     ·exact (hk b g).2.1
    ·rw [aD ⟨o, d⟩]
   ·rcases g with g | g
    ·exact .inl (bD h.size g)
    ·exact (hk b g).2.2
  ·obtain ⟨h1, g, p⟩ := h.box b o (bN _ d)
   refine ⟨?_, ?_, p⟩
   ·rw [j.ex.jl b (gj h1) (qF h.nd d)]; exact h1
   ·unfold oz; rw [aD (gj h1)]; exact g
 ·rw [bf]
  have t : (L.map (·.1)).Nodup := by have := h.nd; rw [bf] at this; exact (bd.1 this).2.1
  refine bd.2 ⟨j.nd, t, fun a u c v e => ?_⟩
  subst e
  obtain ⟨⟨b, o⟩, d, rfl⟩ := aP.1 u
  obtain ⟨⟨s, x⟩, n, e⟩ := aP.1 v
  simp at e; subst e
  have i := h.rJ (bN _ n)
  rcases (j.held s o d).2 with g | g
  ·omega
  ·exact qF h.nd n g
theorem ST.uf (h : ST dd F w W μ L) (W' : World) (L1 : List (Nat × Obj)) : Lo F w μ (oz μ W W' L1) := fun b a _ => aD (bG a h.size)
theorem ST.sS (h : ST dd F w W μ L) (W' : World) (L1 : List (Nat × Obj)) : eT μ (oz μ W W' L1) := fun b o a => by
 unfold oz; rw [aD (h.qz a)]; exact a
theorem ST.fl (h : ST dd F w W μ L) (c : ∀ p, p ∈ L0 → p ∈ L) : eT μ (iR W L0) := fun b o a => by
 unfold iR
 rw [aF]
 ·exact h.mem b o a
 ·rintro ⟨g, d⟩
  rw [(h.box b g (c _ d)).2.1] at a
  cases a
theorem iF.tA (h : Ex dd w W) (c : ∀ b o, (b, o) ∈ L1 → W.heap[b]? = some o ∧ w.heap.size ≤ b) (d : (L1.map (·.1)).Nodup) : iF dd [] L1 w W :=
 ⟨⟨h.os, h.tape, h.output, h.drawn, h.size, fun b a _ => h.jl b a⟩, fun b o a => ⟨(c b o a).1, .inl (c b o a).2⟩, d⟩
end
def fX (dd : Bool) (P : Program) (f : FuncId) (args : List Value) (w : World) (L0 : List (Nat × Obj)) (K : Value → List (Nat × Obj) → World → Prop) : Prop :=
 Calls P f args.toArray w fun e a => ∃ v L1, e = .returned v ∧ iF dd L0 L1 w a ∧ K v L1 a
def gu (dd : Bool) {α : Type} (P : Program) (f : FuncId) (args : List Value) (w : World) (e : TypeId) (enc : α → List Value) (k : Nat) (l : List α) : Prop :=
 fX dd P f args w [] fun v R _ => fp e enc k v l R
theorem iF.gz {L0 L1 : List (Nat × Obj)} {w a : World} (h : iF true L0 L1 w a) : iF dd L0 L1 w a := ⟨⟨h.ex.os, h.ex.tape, h.ex.output, jT.of (h.ex.drawn rfl), h.ex.size, h.ex.jl⟩, h.held, h.nd⟩
theorem fQ.gz {P : Program} {f : FuncId} {args : List Value} {w : World} {v : Value} (h : fQ true P f args w v) : fQ dd P f args w v := bi h fun _ _ h => ⟨h.1, h.2.gz⟩
theorem fX.gz {P : Program} {f : FuncId} {args : List Value} {w : World} {L0 : List (Nat × Obj)} {K : Value → List (Nat × Obj) → World → Prop} (h : fX true P f args w L0 K) : fX dd P f args w L0 K := bi h fun _ _ ⟨v, L1, h1, a, c⟩ => ⟨v, L1, h1, a.gz, c⟩
theorem gu.gz {α : Type} {P : Program} {f : FuncId} {args : List Value} {w : World} {e : TypeId} {enc : α → List Value} {k : Nat} {l : List α} (h : gu true P f args w e enc k l) : gu dd P f args w e enc k l := fX.gz h
section
variable {P : Program} {E : Nat → Value} {W : World} {d : Option Nat} {ty : TypeId} {pos : String} {af : Array Edge} {g : Option (Nat × Bool)}
 {F : Nat → Prop} {w : World} {μ : eV} {L : List (Nat × Obj)}
theorem xE {K : Value → World → Prop} {K' : Value → List (Nat × Obj) → World → Prop} {f : FuncId} {fv : Operand} {ax : Array Operand} {ats : Array TypeId} {caps : Array Value} {args : List Value} (L0 L2 : List (Nat × Obj)) (a : ST dd F w W μ L) (c : L.Perm (L0 ++ L2)) (o : eL E fv = .func (.func f) #[] caps) (he : ∀ args w, (callFunc f args).run P w = .ok (.enter f args) w) (k : ax.map (eL E) ++ caps = args.toArray) (n : fX dd P f args W L0 K') (h : ∀ W' v μ' L1, ST dd F w W' μ' (L1 ++ L2) → eT μ μ' → Lo F w μ μ' → K' v L1 W' → K v W') : gK P E ⟨d, .call ⟨.value fv, ax, ats⟩, ty, pos, af, g⟩ W K :=
 qE o he k (bi n (fun _ W' ⟨v, L1, h1, i, j⟩ => ⟨v, h1, h W' v _ L1 ((a.perm c).back i) ((a.perm c).sS W' L1) ((a.perm c).uf W' L1) j⟩))
theorem wc {K : Value → World → Prop} {α : Type} {e : TypeId} {enc : α → List Value} {k : Nat} {l : List α} {f : FuncId} {fv : Operand} {ax : Array Operand} {ats : Array TypeId} {caps : Array Value} {args : List Value} (X Y : List (Nat × Obj)) (a : ST dd F w W μ (X ++ Y)) (p : eL E fv = .func (.func f) #[] caps) (he : ∀ args w, (callFunc f args).run P w = .ok (.enter f args) w) (n : ax.map (eL E) ++ caps = args.toArray) (o : gu dd P f args W e enc k l) (h : ∀ W' v μ' R, ST dd F w W' μ' (X ++ (R ++ Y)) → eT μ μ' → Lo F w μ μ' → fp e enc k v l R → K v W') : gK P E ⟨d, .call ⟨.value fv, ax, ats⟩, ty, pos, af, g⟩ W K :=
 xE [] (X ++ Y) a (.refl _) p he n o (fun W' v μ' L1 h1 c j i => h W' v μ' L1 (h1.perm (by rw [← aO, ← aO]; exact List.perm_append_comm.append_right Y)) c j i)
end
theorem ST.jF {w W : World} {μ : eV} {L R : List (Nat × Obj)} (h : ST dd fY w W μ L) (a : ∀ p, p ∈ R → p ∈ L) (d : (R.map (·.1)).Nodup) : iF dd [] R w W :=
 iF.tA h.ex (fun b o c => ⟨(h.box b o (a _ c)).1, by
  rcases (h.box b o (a _ c)).2.2 with h | h
  ·exact h
  ·exact h.elim⟩) d
theorem lB {P : Program} {E : Nat → Value} {W : World} {d : Option Nat} {ty : TypeId} {pos : String} {af : Array Edge} {g : Option (Nat × Bool)} {α : Type} {e' : TypeId} {enc : α → List Value} {k : Nat} {v : Value} {l : List α} {R : List (Nat × Obj)} {x : Operand} {t e : TypeId} (a : P.underlying t = some (.slice e)) (i : eL E x = v) (h : fp e' enc k v l R) : fC P E ⟨d, .call ⟨.builtin .len, #[x], #[t]⟩, ty, pos, af, g⟩ W (.int .i64 l.length) W := by
 obtain ⟨A, c, rfl⟩ := h.form
 exact sI a i
section
variable {α : Type} {e : TypeId} {enc : α → List Value} {k : Nat} {v : Value} {l : List α} {R : List (Nat × Obj)}
theorem fp.nd (h : fp e enc k v l R) : (R.map (·.1)).Nodup := by
 rcases h with ⟨rfl, rfl, rfl⟩ | ⟨g, cap, a, rfl, rfl, _⟩ <;> simp
end
end Go.Proofs.Ytcafmokjkjcomaa
namespace Go.Proofs.Ytcafmokjkjcomaa
open Go.RowKit
variable {dd : Bool}
def pV (R : List (Nat × Obj)) (k : Nat) (p : Value) (i : Nat) : Prop := ∃ g o, R = [(g, o)] ∧ p = .pointer (some ⟨g, i * k, none⟩)
section
variable {P : Program} {E : Nat → Value} {W : World} {d : Option Nat} {ty : TypeId} {pos : String} {af : Array Edge} {g : Option (Nat × Bool)}
 {F : Nat → Prop} {w : World} {μ : eV} {L : List (Nat × Obj)} {α : Type} {e' : TypeId} {enc : α → List Value} {k : Nat} {v : Value} {l : List α} {R : List (Nat × Obj)}
theorem lW {t e : TypeId} {x c : Operand} {A : IntKind} {i : Int} {x0 : α} (y : P.underlying t = some (.slice e)) (he : ∀ w, (sizeOf e).run P w = .ok k w) (z : eL E x = v) (s : eL E c = .int A i) (h : fp e' enc k v l R) (o : 0 ≤ i) (u : l[i.toNat]? = some x0) :
  ∃ p, pV R k p i.toNat ∧ ∀ W, fC P E ⟨d, .indexAddr t x c, ty, pos, af, g⟩ W p W := by
 have a : i.toNat < l.length := (aI.1 u).1
 rcases h with ⟨rfl, rfl, rfl⟩ | ⟨n, cap, j, rfl, rfl, h1, D, F, G⟩
 ·simp at a
 refine ⟨.pointer (some ⟨n, i.toNat * k, none⟩), ⟨_, _, rfl, rfl⟩, fun W => ?_⟩
 show (do pure (.value (← Instr.indexAt t (eL E x) (eL E c))) : Sem Next).run P W = _
 rw [z, s]
 have q : 0 ≤ i ∧ i < (l.length : Int) := ⟨o, by omega⟩
 simp [Instr.indexAt, asIntOf, aA y, he W, q, cj]
theorem pC (h : fp e' enc k v l R) (hk : ∀ x, (enc x).length = k) {p : Value} {i : Nat} (hp : pV R k p i) {x0 : α} (q : l[i]? = some x0) :
  ∃ g a cap, R = [(g, .cells a e' (0, 0))] ∧ v = .slice (some ⟨g, 0, none⟩) l.length cap ∧ l.length ≤ cap ∧ cap ≤ maxLen ∧ a.size = cap * k ∧ a.toList.take (l.length * k) = (l.map enc).flatten ∧ p = .pointer (some ⟨g, i * k, none⟩) ∧ ∀ j y, (enc x0)[j]? = some y → a[i * k + j]? = some y := by
 have d : i < l.length := (aI.1 q).1
 rcases h with ⟨rfl, rfl, rfl⟩ | ⟨t, cap, a, rfl, rfl, h1, u, w, n⟩
 ·simp at d
 obtain ⟨g2, o, s, rfl⟩ := hp
 cases s
 refine ⟨t, a, cap, rfl, rfl, h1, u, w, n, rfl, fun j y z => ?_⟩
 have := my hk l i x0 q j y z
 rw [← n] at this
 have c : i * k + j < l.length * k := by
  have := (aI.1 this).1
  simp at this; omega
 rw [cI c] at this
 simpa using this
theorem na {A : List (Nat × Obj)} (hH : kD μ A W) (d : ∀ q, q ∈ R → q ∈ A) (h : fp e' enc k v l R) (hk : ∀ x, (enc x).length = k) {p : Value} {i : Nat} (hp : pV R k p i) {x0 : α} (n : l[i]? = some x0) {t : TypeId} (g : ∀ w, (isAgg t).run P w = .ok true w) (j : ∀ w, (sizeOf t).run P w = .ok k w) : (Instr.loadAt t p).run P W = .ok (.agg (enc x0).toArray) W := by
 obtain ⟨o, a, cap, rfl, rfl, _, _, _, _, rfl, c⟩ := pC h hk hp n
 exact oW g (enc x0) (by rw [hk]; exact j) (hH.2 _ _ (d _ (aN.2 rfl))) c
theorem qZ (hk : ∀ x, (enc x).length = k) : ∀ (l : List α) (i : Nat) (y : α), i < l.length → ((l.set i y).map enc).flatten = (l.map enc).flatten.take (i * k) ++ enc y ++ (l.map enc).flatten.drop (i * k + k)
 | [], i, y, h => by simp at h
 | z :: l, 0, y, h => by
  simp [hk]
 | z :: l, i + 1, y, h => by
  have := qZ hk l i y (by simpa using h)
  simp only [List.set_cons_succ, aR, bE, this]
  have h1 : (i + 1) * k = (enc z).length + i * k := by rw [hk, bp]; omega
  rw [h1, dN, dm, List.drop_length_add_append]
  simp
theorem wk {K : Value → World → Prop} (X : List (Nat × Obj)) {Y : List (Nat × Obj)} {t : TypeId} {x y : Operand} {p u : Value} {i : Nat} {x0 x1 : α} (j : ST dd F w W μ (X ++ (R ++ Y))) (h : fp e' enc k v l R) (hk : ∀ x, (enc x).length = k) (h1 : ∀ x, ∀ u ∈ enc x, u.oneCell' = true) (U : eL E x = p) (Z : eL E y = u) (hu : u.cells = (enc x1).toArray) (hp : pV R k p i) (G : l[i]? = some x0) (Q : ∀ w, (sizeOf t).run P w = .ok k w) (O : ∀ W' R', ST dd F w W' μ (X ++ (R' ++ Y)) → fp e' enc k v (l.set i x1) R' → K undef W') : gK P E ⟨d, .store t x y, ty, pos, af, g⟩ W K := by
 have z : i < l.length := (aI.1 G).1
 obtain ⟨o, a, cap, rfl, rfl, D, L, s, M, rfl, h6⟩ := pC h hk hp G
 have hle : i * k + k ≤ cap * k := by
  have : (i + 1) * k ≤ cap * k := bk _ (by omega)
  rwa [bp, eE] at this
 have n : i * k + k ≤ l.length * k := by
  have : (i + 1) * k ≤ l.length * k := bk _ (by omega)
  rwa [bp, eE] at this
 have c : u.cells.size = k := by rw [hu]; simp [hk]
 have T := (j.box o (.cells a e' (0, 0)) (by simp)).1
 have hlen : l.length * k ≤ cap * k := bk _ D
 refine .inr (.inl ⟨W.setRow o (a.toList.take (i * k) ++ (enc x1) ++ a.toList.drop (i * k + k)).toArray, ?_, O _ [(o, .cells (a.toList.take (i * k) ++ (enc x1) ++ a.toList.drop (i * k + k)).toArray e' (0, 0))] (j.store _) (.inr ⟨o, cap, _, by simp, rfl, by simpa using D, L, ?_, ?_⟩)⟩)
 ·show (do Instr.storeAt t (eL E x) (eL E y); pure .skip : Sem Next).run P W = _
  rw [U, Z]
  have := pc P (off := i * k) u (by rw [c]; exact Q) (by rw [hu]; simpa using h1 x1) T (by rw [c, s]; exact hle)
  simp only [aX, this, aJ, bL, c]
  rw [hu]
 ·show ((a.toList.take (i * k) ++ (enc x1) ++ a.toList.drop (i * k + k)).toArray).size = _
  have q : a.toList.length = cap * k := by simpa using s
  rw [bM, aH, aH, bt, dg, hk, q, bO (by omega)]; omega
 ·rw [dI, qZ hk l i x1 z, ← M]
  have I : (a.toList.take (l.length * k)).take (i * k) = a.toList.take (i * k) := by rw [dw]; congr 1; omega
  have J : (a.toList.take (l.length * k)).drop (i * k + k) = (a.toList.drop (i * k + k)).take (l.length * k - (i * k + k)) := by rw [List.drop_take]
  rw [I, J]
  show List.take (l.length * k) (a.toList.take (i * k) ++ enc x1 ++ a.toList.drop (i * k + k)) = _
  have q : a.toList.length = cap * k := by simpa using s
  have A : (a.toList.take (i * k) ++ enc x1).length = i * k + k := by rw [aH, bt, hk, q, bO (by omega)]
  rw [dD, cu (by rw [A]; exact n), A]
theorem qo (hk : ∀ x, (enc x).length = k) : ∀ (l : List α) (i : Nat), i ≤ l.length → ((l.take i).map enc).flatten = (l.map enc).flatten.take (i * k)
 | [], i, h => by simp
 | z :: l, 0, h => by simp
 | z :: l, i + 1, h => by
  have := qo hk l i (by simpa using h)
  simp only [List.take_succ_cons, aR, bE, this]
  rw [show (i + 1) * k = (enc z).length + i * k by rw [hk, bp]; omega, dN]
theorem sW {t e : TypeId} {x ih : Operand} {G : IntKind} {i : Int} (o : P.underlying t = some (.slice e)) (he : ∀ w, (sizeOf e).run P w = .ok k w) (p : eL E x = v) (n : eL E ih = .int G i) (h : fp e' enc k v l R) (hk : ∀ x, (enc x).length = k) (u : 0 ≤ i) (F : i ≤ l.length) :
  ∃ q, fp e' enc k q (l.take i.toNat) R ∧ ∀ W, fC P E ⟨d, .slice t x none (some ih) none, ty, pos, af, g⟩ W q W := by
 have a : i.toNat ≤ l.length := by omega
 rcases h with ⟨rfl, rfl, rfl⟩ | ⟨j, cap, c, rfl, rfl, h1, y, z, A⟩
 ·have : i = 0 := by simp at F; omega
  subst this
  refine ⟨.slice none 0 0, .inl ⟨rfl, by simp, rfl⟩, fun W => ?_⟩
  show (do pure (.value (← Instr.sliceAt t (eL E x) none (some (eL E ih)) none)) : Sem Next).run P W = _
  rw [p, n]
  simp [Instr.sliceAt, Instr.slice, Instr.sliceBounds, Instr.sliceBound, asIntOf, aA o, he W]
 ·refine ⟨.slice (some ⟨j, 0, none⟩) (l.take i.toNat).length cap, .inr ⟨j, cap, c, rfl, rfl, by simp; omega, y, z, ?_⟩, fun W => ?_⟩
  ·have s : (l.take i.toNat).length = i.toNat := by rw [bt]; omega
   have hle : i.toNat * k ≤ l.length * k := bk _ a
   rw [s, qo hk l i.toNat a, ← A, dw, bO hle]
  ·show (do pure (.value (← Instr.sliceAt t (eL E x) none (some (eL E ih)) none)) : Sem Next).run P W = _
   rw [p, n]
   have D : 0 ≤ i ∧ i ≤ (cap : Int) := ⟨u, by omega⟩
   simp [Instr.sliceAt, Instr.slice, Instr.sliceBounds, Instr.sliceBound, asIntOf, aA o, he W, D, cj]
   omega
theorem qV {z : jg α} {t e : TypeId} {x s : Operand} {Z : IntKind} {i : Int} (U : P.underlying t = some (.slice e)) (he : ∀ w, (sizeOf e).run P w = .ok k w) (o : eL E x = v) (M : eL E s = .int Z i) (h : Sl z k μ v l) (D : 0 ≤ i) (O : i ≤ l.length) :
  ∃ u, (Sl z k μ u (l.drop i.toNat) ∧ ∀ B, Fr B v → Fr B u) ∧ ∀ W, fC P E ⟨d, .slice t x (some s) none none, ty, pos, af, g⟩ W u W := by
 obtain ⟨A, c, rfl, h2, h3, F⟩ := h
 have Q : i.toNat ≤ l.length := by omega
 refine ⟨.slice (if c = i.toNat then A else A.map (·.add (i.toNat * k))) (l.drop i.toNat).length (c - i.toNat), ⟨⟨_, _, rfl, by simp; omega, by omega, fun hp => ?_⟩, fun B L b n => ?_⟩, fun W => ?_⟩
 ·have R : i.toNat < l.length := by simp at hp; omega
  obtain ⟨b, off, cs, T, fr, rfl, G, I⟩ := F (by omega)
  refine ⟨b, off + i.toNat * k, cs, T, fr, ?_, G, fun j x o => ?_⟩
  ·rw [aF (by omega)]; simp [cj]
  ·rw [cg] at o
   obtain ⟨ys, J, K, p⟩ := I _ x o
   refine ⟨ys, J, K, fun q y Y => ?_⟩
   have := p q y Y
   rw [bp] at this
   rw [show off + i.toNat * k + j * k + q = off + (i.toNat * k + j * k) + q by omega]
   exact this
 ·refine L b ?_
  cases A with
  | none => simp [Value.ownBlock] at n
  | some a =>
   split at n
   ·exact n
   ·obtain ⟨b', o', s'⟩ := a
    cases s' <;> simp [Value.ownBlock, Addr.add] at n ⊢ <;> split at n <;> exact n
 ·show (do pure (.value (← Instr.sliceAt t (eL E x) (some (eL E s)) none none)) : Sem Next).run P W = _
  rw [o, M]
  have n : 0 ≤ i ∧ i ≤ (l.length : Int) := ⟨D, O⟩
  simp [Instr.sliceAt, Instr.slice, Instr.sliceBounds, Instr.sliceBound, asIntOf, aA U, he W, n]
end
end Go.Proofs.Ytcafmokjkjcomaa
namespace Go.Proofs.Ytcafmokjkjcomaa
open Go.RowKit
variable {dd : Bool}
section
variable {α : Type} {e : TypeId} {enc : α → List Value} {k : Nat} {v : Value} {l : List α} {R : List (Nat × Obj)} {μ : eV}
theorem fp.one (h : fp e enc k v l R) : v.oneCell' = true := by obtain ⟨A, c, rfl⟩ := h.form; rfl
theorem Sl.one {a : jg α} (h : Sl a k μ v l) : v.oneCell' = true := by obtain ⟨A, c, rfl⟩ := h.form; rfl
theorem Sl.isNil {d : jg α} {n c : Nat} (h : Sl d k μ (.slice none n c) l) : l = [] := by
 obtain ⟨A, j, h1, o, p, g⟩ := h
 cases h1
 rcases cw l.length with a | a
 ·exact bR.1 a
 ·obtain ⟨b, off, cs, T, fr, i, _⟩ := g a
  cases i
theorem fp.isNil {n c : Nat} (h : fp e enc k (.slice none n c) l R) : l = [] := by
 rcases h with ⟨h1, rfl, rfl⟩ | ⟨g, cap, a, h1, _⟩
 ·rfl
 ·cases h1
theorem ST.AD {w W : World} {μ : eV} {L1 L2 : List (Nat × Obj)} (h : ST dd fY w W μ (L1 ++ L2)) : iF dd [] L1 w W :=
 iF.tA h.ex (fun b o a => ⟨(h.box b o (aW _ a)).1, by
  rcases (h.box b o (aW _ a)).2.2 with h | h
  ·exact h
  ·exact h.elim⟩) (by have := h.nd; rw [bf] at this; exact (bd.1 this).1)
theorem ST.Ae {w W : World} {μ : eV} {L0 L1 L2 : List (Nat × Obj)} (h : ST dd (keys L0) w W μ (L1 ++ L2)) : iF dd L0 L1 w W :=
 ⟨⟨h.os, h.tape, h.output, h.drawn, h.size, h.jl⟩, fun b o a => ⟨(h.box b o (aW _ a)).1, (h.box b o (aW _ a)).2.2⟩, by have := h.nd; rw [bf] at this; exact (bd.1 this).1⟩
end
end Go.Proofs.Ytcafmokjkjcomaa
namespace Go.Proofs.Ytcafmokjkjcomaa
open Go.RowKit
variable {dd : Bool}
def gL {κ β : Type} (beq : κ → κ → Bool) (l : List (κ × β)) (k : κ) : Option β := (l.find? (fun p => beq k p.1)).map (·.2)
def lz {κ β : Type} (beq : κ → κ → Bool) (l : List (κ × β)) (k : κ) (v : β) : List (κ × β) :=
 match l.findIdx? (fun p => beq k p.1) with
 | some i => l.set i (k, v)
 | none => l ++ [(k, v)]
structure kQ {κ β : Type} (kenc : κ → Value) (vf : β → Value) (l : List (κ × β)) (es : Array MapEntry) (clock : Nat) : Prop where
 oL : es.toList.map (fun e => (e.key, e.val)) = l.map (fun p => (kenc p.1, vf p.2))
 born : es.toList.Pairwise (fun a b => a.born < b.born)
 lt : ∀ e ∈ es.toList, e.born < clock
def jt {κ β : Type} (kenc : κ → Value) (vf : β → Value) (v : Value) (l : List (κ × β)) (R : List (Nat × Obj)) : Prop :=
 ∃ m es clock, v = .map (some m) ∧ R = [(m, .map es clock)] ∧ kQ kenc vf l es clock
def lq {κ β : Type} (kenc : κ → Value) (vf : β → Value) (μ : eV) (v : Value) (l : List (κ × β)) : Prop :=
 (v = .map none ∧ l = []) ∨ ∃ m es clock, v = .map (some m) ∧ μ m = some (.map es clock) ∧ kQ kenc vf l es clock
theorem lq.mono {κ β : Type} {kenc : κ → Value} {vf : β → Value} {μ μ' : eV} {v : Value} {l : List (κ × β)} (h : lq kenc vf μ v l) (d : eT μ μ') : lq kenc vf μ' v l := by
 rcases h with h | ⟨m, es, clock, h1, a, c⟩
 ·exact .inl h
 ·exact .inr ⟨m, es, clock, h1, d _ _ a, c⟩
theorem jt.at {κ β : Type} {kenc : κ → Value} {vf : β → Value} {μ : eV} {v : Value} {l : List (κ × β)} {R : List (Nat × Obj)} (h : jt kenc vf v l R) (c : ∀ b o, (b, o) ∈ R → μ b = some o) : lq kenc vf μ v l := by
 obtain ⟨m, es, clock, rfl, rfl, a⟩ := h
 exact .inr ⟨m, es, clock, rfl, c _ _ (aN.2 rfl), a⟩
structure lL {κ : Type} (P : Program) (kt : TypeId) (kenc : κ → Value) (beq : κ → κ → Bool) : Prop where
 check : ∀ b k W, (Instr.checkKey b 10000 kt (kenc k)).run P W = .ok () W
 find : ∀ (k : κ) (l : List κ) (es : List MapEntry), es.map (·.key) = l.map kenc → ∀ W, (Instr.findKey kt (kenc k) es).run P W = .ok ((l.findIdx? (fun x => beq k x)).bind fun i => (es[i]?).map fun e => (i, e.val)) W
 eq : ∀ k x, beq k x = true → kenc x = kenc k
 bits : ∀ k, Instr.sameBits 10000 (kenc k) (kenc k) = true
section
variable {P : Program} {W : World} {κ : Type} {kt : TypeId} {kenc : κ → Value} {beq : κ → κ → Bool}
theorem pw (a : ∀ x y W, (Op.equal kt (kenc x) (kenc y)).run P W = .ok (beq x y) W) (k : κ) : ∀ (l : List κ) (es : List MapEntry) (i : Nat), es.map (·.key) = l.map kenc →
  (Instr.findAsking kt (kenc k) es i).run P W = .ok ((l.findIdx? (fun x => beq k x)).bind fun j => (es[j]?).map fun e => (i + j, e.val)) W
 | [], [], i, h => by simp [Instr.findAsking]
 | [], _ :: _, i, h => by simp at h
 | _ :: _, [], i, h => by simp at h
 | x :: l, e :: es, i, h => by
  simp only [aR, bK] at h
  obtain ⟨h1, c⟩ := h
  simp only [Instr.findAsking, aX, h1, a, aJ, dS]
  cases d : beq k x with
  | true => simp
  | false =>
   simp only [ay, aQ]
   rw [pw a k l es (i + 1) c]
   cases l.findIdx? (fun x => beq k x) with
   | none => rfl
   | some j => simp [dm, ep 1 j]
theorem uT {kind : TypeDesc} (hk : ∀ a b, Instr.sameNow kind (.agg a) b = none) (a : Array Value) : ∀ (es : List MapEntry) (i : Nat), Instr.findNow kind (.agg a) es i = if es = [] then some none else none
 | [], i => by simp [Instr.findNow]
 | e :: es, i => by simp [Instr.findNow, hk]
theorem lL.struct {enc : κ → List Value} {i : Array Field} (p : P.underlying kt = some (.struct i)) (o : ∀ d x y W, (Op.equalIn (d + 10) kt (.agg (enc x).toArray) (.agg (enc y).toArray)).run P W = .ok (beq x y) W) (n : ∀ b k W, (Instr.checkKey b 10000 kt (.agg (enc k).toArray)).run P W = .ok () W) (he : ∀ k x, beq k x = true → x = k) (j : ∀ k, Instr.sameBits 10000 (.agg (enc k).toArray) (.agg (enc k).toArray) = true) : lL P kt (fun x => .agg (enc x).toArray) beq where
 check := n
 find := fun k l es h W => by
  have c : ∀ x y W, (Op.equal kt (.agg (enc x).toArray) (.agg (enc y).toArray)).run P W = .ok (beq x y) W := fun x y W => o 9990 x y W
  simp only [Instr.findKey, aX, aA p, aJ]
  rw [uT (fun a b => by cases b <;> rfl)]
  by_cases g : es = []
  ·subst g
   have : l = [] := by simpa using h.symm
   subst this
   simp
  ·rw [aF g]
   dsimp only
   rw [show Instr.findAsking kt (.agg (enc k).toArray) es = Instr.findAsking kt (.agg (enc k).toArray) es 0 from rfl, pw c k l es 0 h]
   simp
 eq := fun k x h => by rw [he k x h]
 bits := j
theorem gr {a b : ByteArray} : fF a b = true ↔ a = b := by
 unfold fF
 rw [cJ, cJ]
 constructor
 ·intro h
  have h1 : a.data.toList = b.data.toList := by simpa using h
  exact ek (Array.toList_inj.1 h1)
 ·rintro rfl
  simp
theorem sP (a b : ByteArray) : (a == b) = fF a b := by
 rw [cA, gr]
 constructor
 ·intro h
  have h1 : (a.data == b.data) = true := h
  exact ek (by simpa using h1)
 ·rintro rfl
  show (a.data == a.data) = true
  simp
theorem pz (k : ByteArray) : ∀ (l : List ByteArray) (es : List MapEntry) (i : Nat), es.map (·.key) = l.map Value.string →
  Instr.findNow .string (.string k) es i = some ((l.findIdx? (fun x => fF k x)).bind fun j => (es[j]?).map fun e => (i + j, e.val))
 | [], [], i, h => by simp [Instr.findNow]
 | [], _ :: _, i, h => by simp at h
 | _ :: _, [], i, h => by simp at h
 | x :: l, e :: es, i, h => by
  simp only [aR, bK] at h
  obtain ⟨h1, a⟩ := h
  simp only [Instr.findNow, h1, Instr.sameNow, sP, dS]
  cases c : fF k x with
  | true => simp
  | false =>
   simp only [ay, aQ]
   rw [pz k l es (i + 1) a]
   cases l.findIdx? (fun x => fF k x) with
   | none => rfl
   | some j => simp [dm, ep 1 j]
theorem rZ (a : P.underlying kt = some .string) (n : Nat) (b : Bool) (k : ByteArray) (W : World) : (Instr.checkKey b (n + 1) kt (.string k)).run P W = .ok () W := by
 simp [Instr.checkKey, aA a]
theorem lL.string (a : P.underlying kt = some .string) : lL P kt Value.string fF where
 check := fun b k W => rZ a 9999 b k W
 find := fun k l es h W => by
  simp only [Instr.findKey, aX, aA a, aJ]
  have := pz k l es 0 h
  rw [this]
  simp
 eq := fun k x h => by rw [gr.1 h]
 bits := fun k => by simp only [Instr.sameBits]; rw [sP]; exact gr.2 rfl
variable {β : Type} {vf : β → Value} {E : Nat → Value} {d : Option Nat} {ty : TypeId} {pos : String} {af : Array Edge} {g : Option (Nat × Bool)} {F : Nat → Prop} {w : World} {μ : eV} {L : List (Nat × Obj)}
theorem kQ.keys {l : List (κ × β)} {es : Array MapEntry} {clock : Nat} (h : kQ kenc vf l es clock) : es.toList.map (·.key) = (l.map (·.1)).map kenc := by
 have := aG (List.map Prod.fst) h.oL
 simpa [Function.comp_def] using this
theorem kQ.length {l : List (κ × β)} {es : Array MapEntry} {clock : Nat} (h : kQ kenc vf l es clock) : es.size = l.length := by
 have := aG List.length h.oL
 simpa using this
theorem kQ.get {l : List (κ × β)} {es : Array MapEntry} {clock : Nat} (h : kQ kenc vf l es clock) (k : κ) :
  (((l.map (·.1)).findIdx? (fun x => beq k x)).bind fun i => (es.toList[i]?).map fun e => (i, e.val)) = (l.findIdx? (fun p => beq k p.1)).bind fun i => (l[i]?).map fun p => (i, vf p.2) := by
 rw [dZ]
 show ((l.findIdx? (fun p => beq k p.1)).bind _) = _
 congr 1
 funext i
 have := aG (fun q => q[i]?) h.oL
 simp only [cD] at this
 cases h1 : es.toList[i]? with
 | none => rw [h1] at this; cases a : l[i]? with
  | none => rfl
  | some p => rw [a] at this; cases this
 | some e => rw [h1] at this; cases a : l[i]? with
  | none => rw [a] at this; cases this
  | some p => rw [a] at this; simp at this; simp [this.2]
theorem kL (l : List (κ × β)) (k : κ) : gL beq l k = (l.findIdx? (fun p => beq k p.1)).bind fun i => (l[i]?).map (·.2) := by
 induction l with
 | nil => rfl
 | cons p l ih =>
  simp only [gL, List.find?_cons, dS] at ih ⊢
  cases beq k p.1 with
  | true => rfl
  | false =>
   simp only [ay, aQ]
   rw [ih]
   cases l.findIdx? (fun p => beq k p.1) <;> simp
theorem kl {l : List (κ × β)} {k : κ} {i : Nat} (h : l.findIdx? (fun p => beq k p.1) = some i) : ∃ p, l[i]? = some p ∧ beq k p.1 = true := by
 rw [List.findIdx?_eq_some_iff_getElem] at h
 obtain ⟨h1, a, _⟩ := h
 exact ⟨l[i], br h1, a⟩
theorem kQ.put {l : List (κ × β)} {es : Array MapEntry} {clock : Nat} (h : kQ kenc vf l es clock) (k : κ) (v : β) :
  match l.findIdx? (fun p => beq k p.1) with
  | some i => kQ kenc vf (l.set i (k, v)) (es.modify i fun e => { e with key := kenc k, val := vf v }) clock
  | none => kQ kenc vf (l ++ [(k, v)]) (es.push { key := kenc k, val := vf v, born := clock }) (clock + 1) := by
 cases s : l.findIdx? (fun p => beq k p.1) with
 | none =>
  refine ⟨?_, ?_, ?_⟩
  ·simp [h.oL]
  ·simp only [Array.toList_push, dG]
   exact ⟨h.born, by simp, fun a w b o => by simp at o; subst o; exact h.lt a w⟩
  ·intro e he
   simp at he
   rcases he with he | rfl
   ·exact Nat.lt_succ_of_lt (h.lt e (by simpa using he))
   ·exact cK _
 | some i =>
  obtain ⟨p, hp, _⟩ := kl s
  have x : i < l.length := (aI.1 hp).1
  have c : (es.modify i fun e => { e with key := kenc k, val := vf v }).toList.map (·.born) = es.toList.map (·.born) := by
   apply cC
   intro j
   simp only [cD, bB, bZ]
   split
   ·cases es[j]? <;> simp
   ·rfl
  refine ⟨?_, ?_, ?_⟩
  ·apply cC
   intro j
   have g := aG (fun q => q[j]?) h.oL
   simp only [cD, bB] at g
   simp only [cD, bB, bZ, cV]
   by_cases d : i = j
   ·subst d
    simp only [aT]
    rw [aD x]
    cases t : es[i]? with
    | none => rw [t, hp] at g; cases g
    | some e => rfl
   ·rw [aF d, aF d]; exact g
  ·have := h.born
   rw [← dx (f := fun e : MapEntry => e.born) (R := (· < ·))] at this ⊢
   rw [c]; exact this
  ·intro e he
   have : e.born ∈ es.toList.map (·.born) := by rw [← c]; exact aP.2 ⟨e, he, rfl⟩
   obtain ⟨e', n, u⟩ := aP.1 this
   rw [← u]; exact h.lt e' n
theorem rL {W : World} {r : Nat} {es : Array MapEntry} {c : Nat} (d : W.heap[r]? = some (.map es c)) (a : Obj) : (setObj r a).run P W = .ok () (ChangeMaps.setBlock W r a) := by
 simp [setObj, Sem.run, d, ChangeMaps.setBlock]
theorem ST.setBlock {A B : List (Nat × Obj)} {b : Nat} {o : Obj} (h : ST dd F w W μ (A ++ (b, o) :: B)) (c : Obj) : ST dd F w (ChangeMaps.setBlock W b c) μ (A ++ (b, c) :: B) := by
 have d := (h.box b o (by simp)).1
 have a := gj d
 refine h.put ⟨rfl, rfl, rfl, aM _, by simp [ChangeMaps.setBlock]⟩ (fun k hk => ?_) ?_
 ·simp only [ChangeMaps.setBlock]
  rw [Array.getElem?_setIfInBounds_ne (fun e => hk e.symm)]
 ·simp only [ChangeMaps.setBlock]
  rw [Array.getElem?_setIfInBounds_self_of_lt a]
theorem uV {I : Value → World → Prop} (X : List (Nat × Obj)) {Y R : List (Nat × Obj)} {t e : TypeId} {m x y : Operand} {G : Value} {l : List (κ × β)} {k : κ} {v : β} (K : lL P kt kenc beq) (M : P.underlying t = some (.map kt e)) (n : ST dd F w W μ (X ++ (R ++ Y))) (h : jt kenc vf G l R) (hm : eL E m = G) (Q : eL E x = kenc k) (T : eL E y = vf v) (L : ∀ W' R', ST dd F w W' μ (X ++ (R' ++ Y)) → jt kenc vf G (lz beq l k v) R' → I undef W') : gK P E ⟨d, .mapUpdate t m x y, ty, pos, af, g⟩ W I := by
 obtain ⟨c, es, clock, rfl, rfl, z⟩ := h
 have A : W.heap[c]? = some (.map es clock) := (n.box c (.map es clock) (by simp)).1
 have J : (getObj c : Sem Obj).run P W = .ok (.map es clock) W := by simp [getObj, Sem.run, A]
 have o := K.find k _ _ z.keys W
 rw [z.get k] at o
 have a := z.put (beq := beq) k v
 have j : ∀ W', (Instr.mapUpdate t (.map (some c)) (kenc k) (vf v)).run P W = .ok () W' → (execOp (eL E) ⟨d, .mapUpdate t m x y, ty, pos, af, g⟩).run P W = .ok .skip W' := by
  intro W' O
  show (do Instr.mapUpdate t (eL E m) (eL E x) (eL E y); pure .skip : Sem Next).run P W = _
  rw [hm, Q, T]
  simp [O]
 cases s : l.findIdx? (fun p => beq k p.1) with
 | none =>
  rw [s] at o a
  refine .inr (.inl ⟨ChangeMaps.setBlock W c (.map (es.push { key := kenc k, val := vf v, born := clock }) (clock + 1)), j _ ?_, L _ [(c, _)] (n.setBlock _) ⟨c, _, _, rfl, rfl, ?_⟩⟩)
  ·simp [Instr.mapUpdate, aA M, J, K.check, o, rL A]
  ·rw [lz, s]; exact a
 | some i =>
  obtain ⟨p, hp, D⟩ := kl s
  rw [s] at o a
  simp only [aw, hp, dr] at o
  have u : ((es[i]?).map (·.key)).getD (kenc k) = kenc k := by
   have := aG (fun q => q[i]?) z.keys
   simp only [cD, hp, dr, bB] at this
   rw [this]
   simp [K.eq k p.1 D]
  refine .inr (.inl ⟨ChangeMaps.setBlock W c (.map (es.modify i fun e => { e with key := kenc k, val := vf v }) clock), j _ ?_, L _ [(c, _)] (n.setBlock _) ⟨c, _, _, rfl, rfl, ?_⟩⟩)
  ·simp only [Instr.mapUpdate, aX, aA M, J, K.check, o, aJ, u, Instr.keyThatStays, K.bits, aT, bL]
   exact rL A _
  ·rw [lz, s]; exact a
theorem wS {c : Value → World → Prop} {t : TypeId} (kenc : κ → Value) (vf : β → Value) (a : ST dd F w W μ L) (h : ∀ W' v R, ST dd F w W' μ (R ++ L) → jt kenc vf v [] R → c v W') : gK P E ⟨d, .makeMap t none, ty, pos, af, g⟩ W c :=
 .inl ⟨.map (some W.heap.size), W.alloc (.map #[] 0), by
   show (do pure (.value (← Instr.makeMap t none)) : Sem Next).run P W = _
   simp [Instr.makeMap, newObj, Sem.run], h _ _ [(W.heap.size, .map #[] 0)] (a.alloc _) ⟨_, _, _, rfl, rfl, ⟨rfl, by simp, by simp⟩⟩⟩
end
end Go.Proofs.Ytcafmokjkjcomaa
namespace Go.Proofs.Ytcafmokjkjcomaa
open Go.RowKit
variable {dd : Bool}
def tQ {α β : Type} (P : Program) (fv : Value) (μ : eV) (a : α → List Value) (c : β → Value) (pm : α → Option β) : Prop :=
 ∃ f caps, fv = .func (.func f) #[] caps ∧ (∀ args w, (callFunc f args).run P w = .ok (.enter f args) w) ∧ ∀ W x r, eT μ (hp W) → pm x = some r → fQ true P f (a x ++ caps.toList) W (c r)
def pX {α β : Type} (P : Program) (fv : Value) (μ : eV) (a : α → List Value) (c : β → Value) (pm : α → Option β) : Prop :=
 ∃ f first caps, fv = .func (.func f) first caps ∧ (∀ args w, (callFunc f args).run P w = .ok (.enter f args) w) ∧ ∀ W x r, eT μ (hp W) → pm x = some r → fQ false P f (first.toList ++ (a x ++ caps.toList)) W (c r)
theorem pX.form {α β : Type} {P : Program} {fv : Value} {μ : eV} {c : α → List Value} {d : β → Value} {pm : α → Option β} (h : pX P fv μ c d pm) : ∃ f a b, fv = .func f a b := let ⟨f, a, b, h, _⟩ := h; ⟨_, a, b, h⟩
section
variable {P : Program} {W : World} {E : Nat → Value} {d : Option Nat} {ty : TypeId} {pos : String} {af : Array Edge} {g : Option (Nat × Bool)} {F : Nat → Prop} {w : World} {μ μ0 : eV} {L : List (Nat × Obj)}
theorem pX.mono {α β : Type} {fv : Value} {a : α → List Value} {c : β → Value} {pm : α → Option β} (h : pX P fv μ a c pm) (i : eT μ μ0) : pX P fv μ0 a c pm := by
 obtain ⟨f, first, caps, h1, d, g⟩ := h
 exact ⟨f, first, caps, h1, d, fun W x r h => g W x r (i.trans h)⟩
theorem zM {α β : Type} {K : Value → World → Prop} {fv : Value} {c : α → List Value} {k : β → Value} {pm : α → Option β} {i : Operand} {ax : Array Operand} {ats : Array TypeId} (x : α) {r : β} (a : ST false F w W μ L) (t : pX P fv μ0 c k pm) (v : eT μ0 μ) (u : eL E i = fv) (s : ax.map (eL E) ++ (#[] : Array Value) = (c x).toArray) (hm : pm x = some r) (h : ∀ W', ST false F w W' μ L → K (k r) W') : gK P E ⟨d, .call ⟨.value i, ax, ats⟩, ty, pos, af, g⟩ W K := by
 obtain ⟨f, first, caps, rfl, n, o⟩ := t
 have j : ax.map (eL E) = (c x).toArray := by simpa using s
 refine .inr (.inr ⟨f, (first.toList ++ (c x ++ caps.toList)).toArray, ?_, bi (o W x r (v.trans a.fw) hm) (fun _ _ ⟨p, q⟩ => ⟨_, p, h _ (a.wh q)⟩)⟩)
 show (do let d ← resolve (eL E) ⟨.value i, ax, ats⟩ ty; invoke d.target d.args : Sem Next).run P W = _
 simp only [resolve, u, Deferred.ofValue, aX, bL, aJ, invoke, j, n]
 congr 2
 simp
end
end Go.Proofs.Ytcafmokjkjcomaa
namespace Go.Proofs.Ytcafmokjkjcomaa
open Go.RowKit
variable {dd : Bool}
def zh (A : List (Nat × Obj)) : eV := fun b => (A.find? (fun p => p.1 == b)).map (·.2)
theorem At.of {M : eV} {b : Nat} {cs : Array Value} {T : TypeId} {fr : Nat × Nat} (h : M b = some (.cells cs T fr)) (ys : List Value) (c : cs.toList = ys) : At M (.pointer (some ⟨b, 0, none⟩)) ys :=
 ⟨b, 0, cs, T, fr, rfl, h, fun j y a => by subst c; simpa using a⟩
section
variable {F : Nat → Prop} {w W W' : World} {μ μ' : eV} {L L0 L1 L2 : List (Nat × Obj)}
theorem ST.sE (h : ST dd F w W μ L) (a : L.Perm (L0 ++ L2)) : ∀ b o, (b, o) ∈ L2 → iR W L0 b = some o := fun b o c => by
 have h1 := (h.perm a).at_ (bN _ c)
 unfold iR
 rw [aF (qF (h.perm a).nd c)]
 exact h1
theorem ST.held (h : ST dd F w W μ L) (a : L.Perm (L0 ++ L2)) : pD L0 W := fun b o c => ((h.perm a).box b o (aW _ c)).1
theorem ST.xQ (h : ST dd F w W μ L) (a : L.Perm (L0 ++ L2)) : (L0.map (·.1)).Nodup := by
 have := (h.perm a).nd
 rw [bf] at this
 exact (bd.1 this).1
theorem ST.xJ (h : ST dd F w W μ L) (a : L.Perm (L0 ++ L2)) : eT μ (iR W L0) := (h.perm a).fl (fun _ hp => aW _ hp)
end
section
variable {P : Program} {E : Nat → Value} {W : World} {d : Option Nat} {ty : TypeId} {pos : String} {af : Array Edge} {g : Option (Nat × Bool)}
 {F : Nat → Prop} {w : World} {μ : eV} {L : List (Nat × Obj)}
theorem yZ {K : Value → World → Prop} {K' : Value → List (Nat × Obj) → World → Prop} {f : FuncId} {fv : Operand} {ax : Array Operand} {ats : Array TypeId} {caps : Array Value} {args : List Value} (L0 L2 : List (Nat × Obj)) (a : ST dd F w W μ L) (c : L.Perm (L0 ++ L2)) (q : eL E fv = .func (.func f) #[] caps) (he : ∀ args w, (callFunc f args).run P w = .ok (.enter f args) w) (n : ax.map (eL E) ++ (#[] : Array Value) = args.toArray) (p : pD L0 W → (L0.map (·.1)).Nodup → eT μ (iR W L0) → (∀ b o, (b, o) ∈ L2 → iR W L0 b = some o) → fX dd P f (args ++ caps.toList) W L0 K') (h : ∀ W' v μ' L1, ST dd F w W' μ' (L1 ++ L2) → eT μ μ' → Lo F w μ μ' → (∀ b, W.heap.size ≤ b → ∀ o, iR W' L1 b = some o → μ' b = some o) → K' v L1 W' → K v W') : gK P E ⟨d, .call ⟨.value fv, ax, ats⟩, ty, pos, af, g⟩ W K := by
 have i : ax.map (eL E) = args.toArray := by simpa using n
 refine qE (args := (args ++ caps.toList).toArray) q he (by rw [i]; simp) (bi (p (a.held c) (a.xQ c) (a.xJ c) (a.sE c)) (fun _ W' ⟨v, L1, h1, j, k⟩ => ⟨v, h1, h W' v _ L1 ((a.perm c).back j) ((a.perm c).sS W' L1) ((a.perm c).uf W' L1) ?_ k⟩))
 intro b t o s
 unfold oz
 rw [aF (by omega)]
 exact s
theorem Sl.lift {α : Type} {enc : α → List Value} {k : Nat} {M μ' : eV} {B : Nat} {v : Value} {l : List α} (h : Sl (Pl enc) k M v l) (q : Fr B v) (p : ∀ b, B ≤ b → ∀ o, M b = some o → μ' b = some o) : Sl (Pl enc) k μ' v l := by
 obtain ⟨A, c, h1, d, g, i⟩ := h
 refine ⟨A, c, h1, d, g, fun s => ?_⟩
 obtain ⟨b, off, cs, T, fr, a, j, n⟩ := i s
 exact ⟨b, off, cs, T, fr, a, p b (q b (by rw [h1, a]; rfl)) _ j, n⟩
theorem rh {t : TypeId} (dd : Nat) {s u : Array TypeId} {b : Bool} (d : P.underlying t = some (.func s u b)) (f : Fn) (a c : Array Value) (W : World) : (Op.equalIn (dd + 1) t (.func f a c) .nilFunc).run P W = .ok false W := by
 simp [Op.equalIn, aA d]
theorem uQ {tx tv : TypeId} {x y : Operand} {f : Fn} {a b : Array Value} {s u : Array TypeId} {c : Bool} (i : P.underlying tx = some (.func s u c)) (j : eL E x = .func f a b) (k : eL E y = .nilFunc) :
  fC P E ⟨d, .binOp .neq tx x y tv, ty, pos, af, g⟩ W (.bool true) W := by
 show (do let r ← (do eqGuard .neq tx x y (eL E x) (eL E y); binOp .neq tx (eL E x) (eL E y)); pure (.value r) : Sem Next).run P W = _
 rw [j, k]
 have h := rh 9999 i f a b W
 simp [eqGuard, binOp, Op.equal, show Op.maxDepth = 9999 + 1 from rfl, h]
end
def vY {κ β : Type} (beq : κ → κ → Bool) (l : List (κ × β)) (k : κ) (z : β) : β := (gL beq l k).getD z
section
variable {P : Program} {W : World} {κ β : Type} {kt : TypeId} {kenc : κ → Value} {beq : κ → κ → Bool} {vf : β → Value} {E : Nat → Value} {d : Option Nat} {ty : TypeId} {pos : String} {af : Array Edge} {g : Option (Nat × Bool)} {F : Nat → Prop} {w : World} {μ : eV} {L R : List (Nat × Obj)} {v : Value} {left : List (κ × β)}
theorem vT {t e : TypeId} {m x : Operand} {s : Value} {l : List (κ × β)} {k : κ} {z : β} (K : lL P kt kenc beq) (o : P.underlying t = some (.map kt e)) (c : ∀ w, (zeroValue e).run P w = .ok (vf z) w) (hm : eL E m = s) (A : eL E x = kenc k) (v : lq kenc vf (hp W) s l) :
  fC P E ⟨d, .lookup t m x true, ty, pos, af, g⟩ W (.tuple #[vf (vY beq l k z), .bool (gL beq l k).isSome]) W := by
 show (do pure (.value (← Instr.lookup t (eL E m) (eL E x) true)) : Sem Next).run P W = _
 rw [hm, A]
 rcases v with ⟨rfl, rfl⟩ | ⟨q, es, clock, rfl, y, h⟩
 ·have := K.find k [] [] rfl W
  simp [Instr.lookup, aA o, K.check, this, c W, gL, vY]
 ·have a : W.heap[q]? = some (.map es clock) := y
  have u : (getObj q : Sem Obj).run P W = .ok (.map es clock) W := by simp [getObj, Sem.run, a]
  have j := K.find k _ _ h.keys W
  rw [h.get k] at j
  simp only [Instr.lookup, aX, aA o, aJ, u, bL, K.check, j, vY, kL]
  cases D : l.findIdx? (fun p => beq k p.1) with
  | none => simp [c W]
  | some i =>
   cases n : l[i]? with
   | none => simp [n, c W]
   | some p => simp [n]
theorem jt.one {a : Value} {l : List (κ × β)} (h : jt kenc vf a l R) : a.oneCell' = true := by obtain ⟨m, es, clock, rfl, _⟩ := h; rfl
theorem jt.form {a : Value} {l : List (κ × β)} (h : jt kenc vf a l R) : ∃ m, a = .map (some m) := by obtain ⟨m, es, clock, rfl, _⟩ := h; exact ⟨m, rfl⟩
theorem jt.nd {a : Value} {l : List (κ × β)} (h : jt kenc vf a l R) : (R.map (·.1)).Nodup := by obtain ⟨m, es, clock, rfl, rfl, _⟩ := h; simp
end
def je {α : Type} (l : List α) (i : Nat) (z : α) : List α := l.take i ++ List.replicate (l.length - i) z
theorem kZ {α : Type} (l : List α) (i : Nat) (z : α) (h : i ≤ l.length) : (je l i z).length = l.length := by simp [je]; omega
theorem qW {α : Type} (l : List α) (i : Nat) (z : α) (h : i ≤ l.length) : (je l i z).take i = l.take i := by
 simp only [je]
 rw [dD, cu (by simp; omega)]
 simp; omega
end Go.Proofs.Ytcafmokjkjcomaa
namespace Go.Proofs.Ytcafmokjkjcomaa
open Go.RowKit
variable {dd : Bool}
def jS (b : Bool) : Option Unit := if b = true then some () else none
theorem rr {b : Bool} {u : Unit} (h : jS b = some u) : b = true := by
 unfold jS at h; split at h
 ·assumption
 ·cases h
theorem oN {a c : Int} {u : Unit} (h : jS (decide (0 ≤ a) && decide (a ≤ c)) = some u) : 0 ≤ a := by have := rr h; simp at this; exact this.1
theorem oE {a c : Int} {u : Unit} (h : jS (decide (0 ≤ a) && decide (a ≤ c)) = some u) : a ≤ c := by have := rr h; simp at this; exact this.2
def sc (k : Nat) (v : Value) (i : Nat) (u : Value) : Prop := ∃ A n c A' a, v = .slice A n c ∧ u = .slice A' (n - i) a ∧ i ≤ n ∧ (i < n → ∃ b o, A = some ⟨b, o, none⟩ ∧ A' = some ⟨b, o + i * k, none⟩)
section
variable {P : Program} {E : Nat → Value} {W : World} {d : Option Nat} {ty : TypeId} {pos : String} {af : Array Edge} {g : Option (Nat × Bool)}
 {F : Nat → Prop} {w : World} {μ : eV} {L : List (Nat × Obj)} {α : Type} {e' : TypeId} {enc : α → List Value} {k : Nat} {v : Value} {l : List α} {R : List (Nat × Obj)}
theorem oU {t e : TypeId} {x a : Operand} {A : IntKind} {i : Int} (o : P.underlying t = some (.slice e)) (he : ∀ w, (sizeOf e).run P w = .ok k w) (p : eL E x = v) (j : eL E a = .int A i) (h : fp e' enc k v l R) (s : 0 ≤ i) (n : i ≤ l.length) :
  ∃ u, sc k v i.toNat u ∧ ∀ W, fC P E ⟨d, .slice t x (some a) none none, ty, pos, af, g⟩ W u W := by
 rcases h with ⟨rfl, rfl, rfl⟩ | ⟨c, cap, q, rfl, rfl, h1, D, F, G⟩
 ·have : i = 0 := by simp at n; omega
  subst this
  refine ⟨.slice none 0 0, ⟨none, 0, 0, none, 0, rfl, rfl, aM _, fun h => absurd h (by simp)⟩, fun W => ?_⟩
  show (do pure (.value (← Instr.sliceAt t (eL E x) (some (eL E a)) none none)) : Sem Next).run P W = _
  rw [p, j]
  simp [Instr.sliceAt, Instr.slice, Instr.sliceBounds, Instr.sliceBound, asIntOf, aA o, he W]
 ·refine ⟨.slice (some (if cap = i.toNat then ⟨c, 0, none⟩ else (Addr.add ⟨c, 0, none⟩ (i.toNat * k)))) (l.length - i.toNat) (cap - i.toNat), ⟨_, _, _, _, _, rfl, rfl, by omega, fun z => ⟨c, 0, rfl, ?_⟩⟩, fun W => ?_⟩
  ·rw [aF (by omega)]; simp [cj]
  ·show (do pure (.value (← Instr.sliceAt t (eL E x) (some (eL E a)) none none)) : Sem Next).run P W = _
   rw [p, j]
   have y : 0 ≤ i ∧ i ≤ (l.length : Int) := ⟨s, n⟩
   simp [Instr.sliceAt, Instr.slice, Instr.sliceBounds, Instr.sliceBound, asIntOf, aA o, he W, y]
   split <;> rfl
theorem pH {i j : Nat} {x0 : α} (h : (l.drop i)[j]? = some x0) : l[i + j]? = some x0 := by rwa [cg] at h
theorem wZ {t e : TypeId} {x : Operand} {u : Value} {i : Nat} (o : P.underlying t = some (.slice e)) (p : eL E x = u) (hu : sc k v i u) (h : fp e' enc k v l R) : fC P E ⟨d, .call ⟨.builtin .len, #[x], #[t]⟩, ty, pos, af, g⟩ W (.int .i64 ((l.length - i : Nat) : Int)) W := by
 obtain ⟨A, n, c, A', q, h1, j, w, _⟩ := hu
 subst j
 have : n = l.length := by
  rcases h with ⟨rfl, rfl, rfl⟩ | ⟨s, cap, a, rfl, rfl, _⟩
  ·cases h1; rfl
  ·cases h1; rfl
 subst this
 exact sI o p
theorem pa {t e : TypeId} {x q : Operand} {O : IntKind} {i : Int} {x0 : α} {u : Value} {o : Nat} (L : P.underlying t = some (.slice e)) (he : ∀ w, (sizeOf e).run P w = .ok k w) (M : eL E x = u) (J : eL E q = .int O i) (h : fp e' enc k v l R) (hu : sc k v o u) (F : 0 ≤ i) (K : (l.drop o)[i.toNat]? = some x0) :
  ∃ p, pV R k p (o + i.toNat) ∧ ∀ W, fC P E ⟨d, .indexAddr t x q, ty, pos, af, g⟩ W p W := by
 have a := pH K
 have j : o + i.toNat < l.length := (aI.1 a).1
 rcases h with ⟨rfl, rfl, rfl⟩ | ⟨D, cap, s, rfl, rfl, h1, T, U, Y⟩
 ·simp at j
 obtain ⟨A, n, c, A', Q, y, rfl, Z, G⟩ := hu
 cases y
 obtain ⟨b, oo, z, rfl⟩ := G (by omega)
 cases z
 refine ⟨.pointer (some ⟨D, (o + i.toNat) * k, none⟩), ⟨_, _, rfl, rfl⟩, fun W => ?_⟩
 show (do pure (.value (← Instr.indexAt t (eL E x) (eL E q))) : Sem Next).run P W = _
 rw [M, J]
 have I : 0 ≤ i ∧ i < ((l.length - o : Nat) : Int) := ⟨F, by omega⟩
 simp [Instr.indexAt, asIntOf, aA L, he W, I, cj, bp]
theorem vS {u : jg α} {t e : TypeId} {x ih : Operand} {Q : IntKind} {j : Int} (O : P.underlying t = some (.slice e)) (he : ∀ w, (sizeOf e).run P w = .ok k w) (n : eL E x = v) (L : eL E ih = .int Q j) (h : Sl u k μ v l) (D : 0 ≤ j) (Y : j ≤ l.length) :
  ∃ s, (Sl u k μ s (l.take j.toNat) ∧ ∀ B, Fr B v → Fr B s) ∧ ∀ W, fC P E ⟨d, .slice t x none (some ih) none, ty, pos, af, g⟩ W s W := by
 obtain ⟨A, c, rfl, U, F, G⟩ := h
 have M : j.toNat ≤ l.length := by omega
 refine ⟨.slice A (l.take j.toNat).length c, ⟨⟨A, c, rfl, by simp; omega, F, fun hp => ?_⟩, fun B K b o => K b (by cases A with | none => simp [Value.ownBlock] at o | some a => (obtain ⟨y, R, q⟩ := a; cases q <;> simp [Value.ownBlock] at o ⊢ <;> exact o))⟩, fun W => ?_⟩
 ·have p : 0 < l.length := by simp at hp; omega
  obtain ⟨b, off, cs, T, fr, rfl, I, J⟩ := G p
  refine ⟨b, off, cs, T, fr, rfl, I, fun i x n => ?_⟩
  rw [cx] at n
  split at n
  ·exact J i x n
  ·cases n
 ·show (do pure (.value (← Instr.sliceAt t (eL E x) none (some (eL E ih)) none)) : Sem Next).run P W = _
  rw [n, L]
  have o : 0 ≤ j ∧ j ≤ (c : Int) := ⟨D, by omega⟩
  have z : min j.toNat l.length = j.toNat := by omega
  simp [Instr.sliceAt, Instr.slice, Instr.sliceBounds, Instr.sliceBound, asIntOf, aA O, he W, o, z]
  intro _
  cases A with
  | none => rfl
  | some a => obtain ⟨y, R, q⟩ := a; cases q <;> simp [Addr.add]
theorem sF (ys : List Value) (m : Nat) : (Builtin.zeroCells ys.toArray m).toList = (List.replicate m ys).flatten := by
 unfold Builtin.zeroCells
 simp only [Array.toList_map, Array.toList_range, bM]
 rcases cw ys.length with a | a
 ·have : ys = [] := bR.1 a
  subst this
  simp
 apply cC
 intro q
 by_cases d : q < m * ys.length
 ·have h1 : q / ys.length < m := (dz a).2 d
  have c : q % ys.length < ys.length := Nat.mod_lt _ a
  have := my (enc := fun _ : Unit => ys) (fun _ => rfl) (List.replicate m ()) (q / ys.length) () (by simp [h1]) (q % ys.length) ys[q % ys.length] (by simp [c])
  rw [Nat.div_add_mod' q ys.length] at this
  rw [List.map_replicate] at this
  rw [this]
  simp [d, c]
 ·rw [cd (by simp; omega), cd (by simp; omega)]
theorem uZ {K : Value → World → Prop} (z : α) (X : List (Nat × Obj)) {Y : List (Nat × Obj)} {t e : TypeId} {x : Operand} {u Z : Value} {i : Nat} (p : ST dd F w W μ (X ++ (R ++ Y))) (h : fp e' enc k v l R) (hk : ∀ x, (enc x).length = k) (h1 : ∀ x, ∀ u ∈ enc x, u.oneCell' = true) (O : P.underlying t = some (.slice e)) (hz : ∀ w, (zeroValue e).run P w = .ok Z w) (hu : sc k v i u) (hc : Z.cells = (enc z).toArray) (hx : eL E x = u) (L : ∀ W' R', ST dd F w W' μ (X ++ (R' ++ Y)) → fp e' enc k v (je l i z) R' → K (.tuple #[]) W') : gK P E ⟨d, .call ⟨.builtin .clear, #[x], #[t]⟩, ty, pos, af, g⟩ W K := by
 have j : ∀ (W' : World), (Builtin.clear_ #[t] ty #[u]).run P W = .ok (.tuple #[]) W' → (execOp (eL E) ⟨d, .call ⟨.builtin .clear, #[x], #[t]⟩, ty, pos, af, g⟩).run P W = .ok (.value (.tuple #[])) W' := by
  intro W' hV
  show (do let d ← resolve (eL E) ⟨.builtin .clear, #[x], #[t]⟩ ty; invoke d.target d.args : Sem Next).run P W = _
  simp [resolve, invoke, builtin, hx, hV]
 obtain ⟨A, n, c, A', c', e1, rfl, D, h8⟩ := hu
 rcases h with ⟨rfl, rfl, rfl⟩ | ⟨s, cap, a, rfl, rfl, U, q2, I, q4⟩
 ·cases e1
  refine .inl ⟨_, W, j W ?_, L W [] p (by simpa [je] using fp.nil e' enc k)⟩
  simp only [Builtin.clear_, Nat.zero_sub]
  cases A' <;> simp [aA O]
 ·cases e1
  by_cases hi : i < l.length
  ·obtain ⟨b, o, e2, rfl⟩ := h8 hi
   cases e2
   have T : ∀ m, (Builtin.zeroCells Z.cells m).toList = (List.replicate m (enc z)).flatten := by
    intro m
    rw [hc]; exact sF _ _
   have hb := (p.box s (.cells a e' (0, 0)) (by simp)).1
   have hle : i * k + (l.length - i) * k = l.length * k := by rw [← bp]; congr 1; omega
   have hlen : l.length * k ≤ c * k := bk _ U
   have q : ((List.replicate (l.length - i) (enc z)).flatten).length = (l.length - i) * k := by simp [hk]
   have y : ∀ v ∈ (List.replicate (l.length - i) (enc z)).flatten, v.oneCell' = true := by
    intro v G
    obtain ⟨ys, Q, G⟩ := List.mem_flatten.1 G
    rw [(List.mem_replicate.1 Q).2] at G
    exact h1 z v G
   have hs := run_storeCells_at (P := P) s (i * k) e' ((List.replicate (l.length - i) (enc z)).flatten) 0 a W hb (by rw [q, I]; omega) y
   rw [Nat.add_zero, q, hle] at hs
   refine .inl ⟨_, W.setRow s (a.toList.take (i * k) ++ (List.replicate (l.length - i) (enc z)).flatten ++ a.toList.drop (l.length * k)).toArray, j _ ?_, L _ [(s, .cells (a.toList.take (i * k) ++ (List.replicate (l.length - i) (enc z)).flatten ++ a.toList.drop (l.length * k)).toArray e' (0, 0))] (p.store _) (.inr ⟨s, c, _, by rw [kZ _ _ _ D], rfl, by rw [kZ _ _ _ D]; exact U, q2, ?_, ?_⟩)⟩
   ·have hn : l.length - i = (l.length - i - 1) + 1 := by omega
    simp only [Builtin.clear_]
    rw [hn]
    simp only [aA O, aX, aJ, cU, List.getElem?_cons_zero, hz, er]
    rw [← hn, T, hs]
    simp
   ·have J : a.toList.length = c * k := by simpa using I
    rw [bM, aH, aH, bt, dg, q, J, bO (by omega)]
    omega
   ·rw [kZ _ _ _ D, je, bf, List.flatten_append, qo hk l i D, ← q4, dw, bO (by omega), List.map_replicate]
    have J : a.toList.length = c * k := by simpa using I
    have e3 : (a.toList.take (i * k) ++ (List.replicate (l.length - i) (enc z)).flatten).length = l.length * k := by rw [aH, bt, q, J, bO (by omega)]; omega
    show List.take (l.length * k) (a.toList.take (i * k) ++ (List.replicate (l.length - i) (enc z)).flatten ++ a.toList.drop (l.length * k)) = _
    rw [dD, cu (by rw [e3]; exact aM _), e3, Nat.sub_self]
    simp
  ·have M : i = l.length := by omega
   subst M
   refine .inl ⟨_, W, j W ?_, L W _ p ?_⟩
   ·simp only [Builtin.clear_, Nat.sub_self]
    cases A' <;> simp [aA O]
   ·simp only [je, List.take_length, Nat.sub_self, List.replicate_zero, bY]
    exact .inr ⟨s, c, a, rfl, rfl, U, q2, I, q4⟩
end
end Go.Proofs.Ytcafmokjkjcomaa
namespace Go.Proofs.Ytcafmokjkjcomaa
open Go.RowKit
variable {dd : Bool}
section
variable {P : Program} {E : Nat → Value} {W : World} {d : Option Nat} {ty : TypeId} {pos : String} {af : Array Edge} {g : Option (Nat × Bool)}
 {F : Nat → Prop} {w : World} {μ : eV} {L : List (Nat × Obj)}
theorem vF {K : Value → World → Prop} {f : FuncId} {fv : Operand} {ax : Array Operand} {ats : Array TypeId} {args : List Value} {v : Value} (i : eL E fv = .func (.func f) #[] #[]) (c : ax.map (eL E) ++ (#[] : Array Value) = args.toArray) (j : (callFunc f args.toArray).run P W = .ok (.value v) W) (h : K v W) : gK P E ⟨d, .call ⟨.value fv, ax, ats⟩, ty, pos, af, g⟩ W K := by
 have a : ax.map (eL E) = args.toArray := by simpa using c
 refine .inl ⟨v, W, ?_, h⟩
 show (do let d ← resolve (eL E) ⟨.value fv, ax, ats⟩ ty; invoke d.target d.args : Sem Next).run P W = _
 simp only [resolve, i, Deferred.ofValue, aX, bL, aJ, invoke]
 rw [a]
 simpa using j
def lY (s : ByteArray) (c : Int) : Int := Lib.indexByte s.data.toList c.toNat.toUInt8
def kk (a b : ByteArray) : Int := Lib.compareBytes a.data.toList b.data.toList
def lE (l : List Int) : List UInt8 := l.map fun x => x.toNat.toUInt8
def nt (a b : List Int) : Int := Lib.compareBytes (lE a) (lE b)
theorem si {f : FuncId} {fn : Func} (g : P.funcs[f]? = some fn) (a : (fn.name == "runtime.NumGoroutine") = false) (d : fn.body.isNone = true) (h : Extern.findNext fn = none) (he : Extern.find fn = some Extern.BytealgIndexByte.indexByte) (s : ByteArray) (c : Int) (w : World) :
  (callFunc f [Value.string s, .int .u8 c].toArray).run P w = .ok (.value (.int .i64 (lY s c))) w := by
 rw [dL g a d h he]
 rw [Lib.run_indexByteString]
 rfl
theorem xw {f : FuncId} {fn : Func} (g : P.funcs[f]? = some fn) (c : (fn.name == "runtime.NumGoroutine") = false) (d : fn.body.isNone = true) (h : Extern.findNext fn = none) (he : Extern.find fn = some Extern.BytealgCompare.compare) (a b : ByteArray) (w : World) :
  (callFunc f [Value.string a, .string b].toArray).run P w = .ok (.value (.int .i64 (kk a b))) w := by
 rw [dL g c d h he]
 rw [Lib.run_compareString]
 rfl
theorem pS {v : Value} {l : List Int} (h : Sl (Pl (eQ .u8)) 1 (hp W) v l) : (Extern.Bytes.bytesOf v).run P W = .ok ⟨(lE l).toArray⟩ W := by
 obtain ⟨A, c, rfl, p, q, i⟩ := h
 rcases cw l.length with a | a
 ·have : l = [] := bR.1 a
  subst this
  cases A <;> simp [Extern.Bytes.bytesOf, Extern.Bytes.loadBytes, lE] <;> rfl
 ·obtain ⟨b, off, cs, T, fr, rfl, k, n⟩ := i a
  have := Lib.run_loadBytesX (P := P) W l ⟨b, off, none⟩ .empty (fun j x o => by
   obtain ⟨ys, _, g, d⟩ := n j x o
   cases g
   rw [cj, dY W b (off + j) cs T fr k]
   have := d 0 (.int .u8 x) rfl
   simpa using this)
  simp only [Extern.Bytes.bytesOf]
  rw [this]
  congr 1
  apply ek
  show (#[] : Array UInt8) ++ _ = _
  simp [Lib.bytesOf, lE]
theorem xI {f : FuncId} {fn : Func} (j : P.funcs[f]? = some fn) (c : (fn.name == "runtime.NumGoroutine") = false) (i : fn.body.isNone = true) (k : Extern.findNext fn = none) (he : Extern.find fn = some Extern.BytealgCompare.compare) {d g : Value} {a b : List Int} (h1 : Sl (Pl (eQ .u8)) 1 (hp W) d a) (h : Sl (Pl (eQ .u8)) 1 (hp W) g b) :
  (callFunc f [d, g].toArray).run P W = .ok (.value (.int .i64 (nt a b))) W := by
 rw [dL j c i k he]
 have : (Extern.BytealgCompare.compare [d, g].toArray).run P W = .ok (.int .i64 (nt a b)) W := by
  change Sem.run P (do pure (goInt (Extern.BytealgCompare.cmp (← Extern.Bytes.bytesOf d) (← Extern.Bytes.bytesOf g)))) W = _
  simp only [aX, pS h1, pS h, bL, Result.andThen]
  rw [Lib.cmp_eq]
  rfl
 rw [this]
 rfl
theorem oZ {fn : Fn} {caps : Array Operand} {cs : List Value} {v : Value} (a : caps.map (eL E) ++ (#[] : Array Value) = cs.toArray) (c : .func fn #[] cs.toArray = v) : fC P E ⟨d, .makeFunc fn #[] caps, ty, pos, af, g⟩ W v W := by
 have : caps.map (eL E) = cs.toArray := by simpa using a
 exact vW (by rw [this]; simpa using c)
theorem fX.mono {f : FuncId} {args : List Value} {L0 : List (Nat × Obj)} {K K' : Value → List (Nat × Obj) → World → Prop} (h : fX dd P f args w L0 K) (hk : ∀ v L1 W', K v L1 W' → K' v L1 W') : fX dd P f args w L0 K' :=
 bi h (fun _ _ ⟨v, L1, h1, a, c⟩ => ⟨v, L1, h1, a, hk _ _ _ c⟩)
end
section
variable {α : Type}
def ke (cf : α × α → Option Int) (x y : α) : Bool := match cf (x, y) with
 | some c => decide (c < 0)
 | none => false
structure qm (cf : α × α → Option Int) (l : List α) : Prop where
 is : ∀ x ∈ l, ∀ y ∈ l, ∃ c, cf (x, y) = some c
 irrefl : ∀ x ∈ l, ke cf x x = false
 trans : ∀ x ∈ l, ∀ y ∈ l, ∀ z ∈ l, ke cf x y = true → ke cf y z = true → ke cf x z = true
 total : ∀ x ∈ l, ∀ y ∈ l, ke cf x y = false → ke cf y x = false → x = y
 short : l.length < 4611686018427387904
def kd (cf : α × α → Option Int) (l : List α) : List α := l.mergeSort fun x y => !ke cf y x
open Classical in
noncomputable def oB (cf : α × α → Option Int) (l : List α) : Option (List α) := if qm cf l then some (kd cf l) else none
theorem wj {cf : α × α → Option Int} {l r : List α} (h : oB cf l = some r) : qm cf l ∧ r = kd cf l := by
 unfold oB at h
 split at h
 ·rename_i a; cases h; exact ⟨a, rfl⟩
 ·cases h
theorem xZ {cf : α × α → Option Int} {l : List α} (h : qm cf l) : oB cf l = some (kd cf l) := by
 unfold oB; rw [aD h]
def kz (l : List ByteArray) : List ByteArray := l.mergeSort fun x y => !nM y x
end
end Go.Proofs.Ytcafmokjkjcomaa
namespace Go.Proofs.Ytcafmokjkjcomaa
open Go.RowKit
variable {dd : Bool}
def kX {κ γ : Type} (Q : Value → γ → List (Nat × Obj) → Prop) : List (κ × Value) → List (κ × γ) → List (Nat × Obj) → Prop
 | [], [], R => R = []
 | p :: a, q :: l, R => p.1 = q.1 ∧ ∃ R1 R2, R = R1 ++ R2 ∧ Q p.2 q.2 R1 ∧ kX Q a l R2
 | _, _, _ => False
def gY {κ γ : Type} (kenc : κ → Value) (Q : Value → γ → List (Nat × Obj) → Prop) (v : Value) (d : List (κ × Value)) (l : List (κ × γ)) (R : List (Nat × Obj)) : Prop :=
 ∃ a c, R = a ++ c ∧ jt kenc (fun x => x) v d a ∧ kX Q d l c
section
variable {κ γ : Type} {Q : Value → γ → List (Nat × Obj) → Prop} {beq : κ → κ → Bool} {kenc : κ → Value}
theorem kX.keys : ∀ {a : List (κ × Value)} {l : List (κ × γ)} {R : List (Nat × Obj)}, kX Q a l R → a.map (·.1) = l.map (·.1)
 | [], [], _, _ => rfl
 | [], _ :: _, _, h => h.elim
 | _ :: _, [], _, h => h.elim
 | p :: a, q :: l, R, h => by
  obtain ⟨h1, R1, R2, _, _, c⟩ := h
  simp [h1, kX.keys c]
theorem kX.find {a : List (κ × Value)} {l : List (κ × γ)} {R : List (Nat × Obj)} (h : kX Q a l R) (k : κ) : a.findIdx? (fun p => beq k p.1) = l.findIdx? (fun p => beq k p.1) := by
 have h1 : (a.map (·.1)).findIdx? (fun x => beq k x) = (l.map (·.1)).findIdx? (fun x => beq k x) := by rw [h.keys]
 rw [dZ, dZ] at h1
 exact h1
theorem kX.get : ∀ {c : List (κ × Value)} {l : List (κ × γ)} {R : List (Nat × Obj)}, kX Q c l R → ∀ (i : Nat) (k : κ) (x : γ), l[i]? = some (k, x) →
  ∃ v A R1 B, c[i]? = some (k, v) ∧ R = A ++ (R1 ++ B) ∧ Q v x R1 ∧ ∀ k2 v2 x2 R2, Q v2 x2 R2 → kX Q (c.set i (k2, v2)) (l.set i (k2, x2)) (A ++ (R2 ++ B))
 | [], [], _, _, i, k, x, a => by simp at a
 | [], _ :: _, _, h, _, _, _, _ => h.elim
 | _ :: _, [], _, h, _, _, _, _ => h.elim
 | p :: c, q :: l, R, h, 0, k, x, a => by
  obtain ⟨h1, R1, R2, rfl, d, g⟩ := h
  simp at a
  subst a
  refine ⟨p.2, [], R1, R2, by simp only [List.getElem?_cons_zero]; exact aG some (Prod.ext h1 rfl), rfl, d, fun k2 v2 x2 R2' j => ⟨rfl, R2', R2, rfl, j, g⟩⟩
 | p :: c, q :: l, R, h, i + 1, k, x, a => by
  obtain ⟨h1, R1, R2, rfl, d, g⟩ := h
  simp at a
  obtain ⟨v, A, R1', B, g1, rfl, g3, g4⟩ := kX.get g i k x a
  exact ⟨v, R1 ++ A, R1', B, by simpa using g1, by simp, g3, fun k2 v2 x2 R2' j => ⟨h1, R1, A ++ (R2' ++ B), by simp, d, g4 k2 v2 x2 R2' j⟩⟩
theorem kX.push : ∀ {c : List (κ × Value)} {l : List (κ × γ)} {R : List (Nat × Obj)}, kX Q c l R → ∀ (k : κ) {v : Value} {x : γ} {R1 : List (Nat × Obj)}, Q v x R1 → kX Q (c ++ [(k, v)]) (l ++ [(k, x)]) (R ++ R1)
 | [], [], _, h, k, v, x, R1, a => by
  have i : _ = [] := h
  subst i
  exact ⟨rfl, R1, [], by simp, a, rfl⟩
 | [], _ :: _, _, h, _, _, _, _, _ => h.elim
 | _ :: _, [], _, h, _, _, _, _, _ => h.elim
 | p :: c, q :: l, R, h, k, v, x, R1, a => by
  obtain ⟨h1, d, g, rfl, j, n⟩ := h
  exact ⟨h1, d, g ++ R1, by simp, j, kX.push n k a⟩
theorem gY.found {u : Value} {d : List (κ × Value)} {l : List (κ × γ)} {R : List (Nat × Obj)} (hk : ∀ {x y : κ}, beq x y = true → x = y) (h : gY kenc Q u d l R) {k : κ} {x : γ} (c : gL beq l k = some x) :
  ∃ v A R1 B, gL beq d k = some v ∧ R = A ++ (R1 ++ B) ∧ Q v x R1 ∧ (∀ x2 R2, Q v x2 R2 → gY kenc Q u d (lz beq l k x2) (A ++ (R2 ++ B))) := by
 obtain ⟨s, E, rfl, w, t⟩ := h
 rw [kL] at c
 cases g : l.findIdx? (fun p => beq k p.1) with
 | none => rw [g] at c; cases c
 | some i =>
  rw [g] at c
  obtain ⟨p, hp, z⟩ := kl g
  simp only [aw, hp, dr, ec] at c
  subst c
  have q := hk z
  obtain ⟨v, A, R1, B, g1, rfl, g3, g4⟩ := t.get i p.1 p.2 hp
  have n : d.findIdx? (fun p => beq k p.1) = some i := by rw [t.find k, g]
  refine ⟨v, s ++ A, R1, B, by rw [kL, n]; simp [g1], by simp, g3, fun x2 R2 D => ⟨s, A ++ (R2 ++ B), by simp, w, ?_⟩⟩
  have a := g4 k v x2 R2 D
  have e : d.set i (k, v) = d := by
   apply cC
   intro j
   rw [cV]
   split
   ·rename_i o
    subst o
    rw [g1, q]
    simp [(aI.1 g1).1]
   ·rfl
  rw [e] at a
  rw [lz, g]
  exact a
theorem gY.wy {j : Value} {d : List (κ × Value)} {l : List (κ × γ)} {R : List (Nat × Obj)} (h : gY kenc Q j d l R) {k : κ} (a : gL beq l k = none) : gL beq d k = none := by
 obtain ⟨n, o, rfl, q, g⟩ := h
 rw [kL] at a ⊢
 rw [g.find k]
 cases c : l.findIdx? (fun p => beq k p.1) with
 | none => rfl
 | some i =>
  rw [c] at a
  obtain ⟨p, hp, s⟩ := kl c
  simp [hp] at a
def kM (beq : κ → κ → Bool) (a : List (κ × Value)) (k : κ) (z : Value) : Value := (gL beq a k).getD z
variable {P : Program} {W : World} {kt : TypeId} {E : Nat → Value} {d : Option Nat} {ty : TypeId} {pos : String} {af : Array Edge} {g : Option (Nat × Bool)} {F : Nat → Prop} {w : World} {μ : eV} {L : List (Nat × Obj)}
variable {κ2 β : Type} {kenc2 : κ2 → Value} {vf : β → Value} {beq2 : κ2 → κ2 → Bool} {kt2 : TypeId}
theorem gY.isNil {d : Value} {c : List (κ × Value)} {l : List (κ × List (κ2 × β))} {R : List (Nat × Obj)} (hk : ∀ {x y : κ}, beq x y = true → x = y) (h : gY kenc (jt kenc2 vf) d c l R) (k : κ) :
  ∃ r, kM beq c k (.map none) = .map r ∧ r.isNone = (gL beq l k).isNone := by
 cases a : gL beq l k with
 | none => rw [kM, h.wy a]; exact ⟨none, rfl, rfl⟩
 | some x =>
  obtain ⟨v, A, R1, B, g1, rfl, g3, _⟩ := h.found hk a
  obtain ⟨m, es, clock, rfl, _⟩ := g3
  rw [kM, g1]
  exact ⟨_, rfl, rfl⟩
def uD {κ γ : Type} (beq : κ → κ → Bool) (l : List (κ × γ)) (k : κ) (x : γ) : Option (List (κ × γ)) := if (gL beq l k).isNone then some (lz beq l k x) else none
theorem wU {D : Value → World → Prop} (X : List (Nat × Obj)) {Y R R2 : List (Nat × Obj)} {t e : TypeId} {m x y : Operand} {A : Value} {v : List (κ × Value)} {l J : List (κ × γ)} {k : κ} {u : Value} {z : γ} (K : lL P kt kenc beq) (ht : P.underlying t = some (.map kt e)) (s : ST dd F w W μ (X ++ (R ++ (R2 ++ Y)))) (h : gY kenc Q A v l R) (hm : eL E m = A) (hx : eL E x = kenc k) (hy : eL E y = u) (hq : Q u z R2) (c : uD beq l k z = some J) (U : ∀ W' R', ST dd F w W' μ (X ++ (R' ++ Y)) → gY kenc Q A (lz beq v k u) J R' → D undef W') : gK P E ⟨d, .mapUpdate t m x y, ty, pos, af, g⟩ W D := by
 unfold uD at c
 cases n : gL beq l k with
 | some l2 => rw [n] at c; cases c
 | none =>
  rw [n] at c
  simp only [Option.isNone_none, aT, ec] at c
  subst c
  have Z := h.wy n
  obtain ⟨M, o, rfl, O, T⟩ := h
  have j : ST dd F w W μ (X ++ (M ++ (o ++ (R2 ++ Y)))) := by simpa using s
  refine uV X K ht j O hm hx hy (fun W' R' g1 g2 => U W' (R' ++ (o ++ R2)) (by simpa using g1) ⟨R', o ++ R2, rfl, g2, ?_⟩)
  have G : ∀ {L : Type} (q : List (κ × L)) (y : L), gL beq q k = none → lz beq q k y = q ++ [(k, y)] := fun q y a => by
   rw [kL] at a
   rw [lz]
   cases I : q.findIdx? (fun p => beq k p.1) with
   | none => rfl
   | some i =>
    obtain ⟨p, hp, _⟩ := kl I
    rw [I] at a
    simp [hp] at a
  rw [G v u Z, G l z n]
  exact T.push k hq
theorem gY.AV {α : Type} {e : TypeId} {enc : α → List Value} {n : Nat} (i : ∀ x, (enc x).length = n) {j : Value} {c : List (κ × Value)} {l : List (κ × List α)} {R : List (Nat × Obj)} (hk : ∀ {x y : κ}, beq x y = true → x = y) (h : gY kenc (fp e enc n) j c l R) (k : κ) {μ : eV} (d : ∀ b o, (b, o) ∈ R → μ b = some o) :
  Sl (Pl enc) n μ (kM beq c k (.slice none 0 0)) ((gL beq l k).getD []) := by
 cases a : gL beq l k with
 | none => rw [kM, h.wy a]; exact ⟨none, 0, rfl, aM _, db _, fun h => absurd h (Nat.lt_irrefl _)⟩
 | some x =>
  obtain ⟨v, A, R1, B, g1, rfl, g3, _⟩ := h.found hk a
  rw [kM, g1]
  exact g3.sl i (fun b o g => d b o (by simp [g]))
end
end Go.Proofs.Ytcafmokjkjcomaa
namespace Go.Proofs.Ytcafmokjkjcomaa
open Go.RowKit
variable {dd : Bool}
section
variable {κ γ : Type} {Q : Value → γ → List (Nat × Obj) → Prop} {beq : κ → κ → Bool} {kenc : κ → Value}
theorem rH {a : Type} {l : List (κ × a)} {k : κ} {i : Nat} (h : l.findIdx? (fun p => beq k p.1) = some i) (x : a) : lz beq l k x = l.set i (k, x) := by rw [lz, h]
theorem qk {a : Type} {l : List (κ × a)} {k : κ} (h : l.findIdx? (fun p => beq k p.1) = none) (x : a) : lz beq l k x = l ++ [(k, x)] := by rw [lz, h]
theorem sT {a : Type} {l : List (κ × a)} {k : κ} (h : l.findIdx? (fun p => beq k p.1) = none) : gL beq l k = none := by rw [kL, h]; rfl
theorem rO {a : Type} {l : List (κ × a)} {k : κ} {i : Nat} {p : κ × a} (h : l.findIdx? (fun p => beq k p.1) = some i) (hp : l[i]? = some p) : gL beq l k = some p.2 := by rw [kL, h]; simp [hp]
def Av (beq : κ → κ → Bool) (kenc : κ → Value) (Q : Value → γ → List (Nat × Obj) → Prop) (d : Value) (c : List (κ × Value)) (l : List (κ × γ)) (k : κ) (R : List (Nat × Obj)) : Prop :=
 ∃ a A B, R = a ++ (A ++ B) ∧ jt kenc (fun x => x) d c a ∧ ∀ v x R1, Q v x R1 → kX Q (lz beq c k v) (lz beq l k x) (A ++ (R1 ++ B))
theorem gY.open (hk : ∀ {x y : κ}, beq x y = true → x = y) {t z : Value} {x0 : γ} (n : Q z x0 []) {o : List (κ × Value)} {l : List (κ × γ)} {R : List (Nat × Obj)} (h : gY kenc Q t o l R) (k : κ) :
  ∃ R' R1, R.Perm (R' ++ R1) ∧ Q (kM beq o k z) ((gL beq l k).getD x0) R1 ∧ Av beq kenc Q t o l k R' := by
 obtain ⟨d, q, rfl, s, g⟩ := h
 have c := g.find (beq := beq) k
 cases a : l.findIdx? (fun p => beq k p.1) with
 | none =>
  rw [a] at c
  refine ⟨d ++ q, [], by simp, ?_, d, q, [], by simp, s, fun v x R1 j => ?_⟩
  ·rw [kM, sT a, sT c]; exact n
  ·rw [qk a, qk c]; simpa using g.push k j
 | some i =>
  rw [a] at c
  obtain ⟨p, hp, u⟩ := kl a
  have w := hk u
  obtain ⟨v, A, R1, B, g1, rfl, g3, g4⟩ := g.get i p.1 p.2 hp
  refine ⟨d ++ (A ++ B), R1, ?_, ?_, d, A, B, rfl, s, fun v2 x2 R2 j => ?_⟩
  ·rw [aO, aO]
   refine List.Perm.append_left _ (List.Perm.append_left _ dA)
  ·rw [kM, rO a hp, rO c g1]; exact g3
  ·rw [rH a, rH c]; exact g4 k v2 x2 R2 j
variable {P : Program} {W : World} {kt : TypeId} {E : Nat → Value} {d : Option Nat} {ty : TypeId} {pos : String} {af : Array Edge} {g : Option (Nat × Bool)} {F : Nat → Prop} {w : World} {μ : eV} {L : List (Nat × Obj)}
end
end Go.Proofs.Ytcafmokjkjcomaa
namespace Go.Proofs.Ytcafmokjkjcomaa
open Go.RowKit
variable {dd : Bool}
section
variable {κ γ : Type} {Q : Value → γ → List (Nat × Obj) → Prop} {beq : κ → κ → Bool} {kenc : κ → Value}
variable {P : Program} {W : World} {kt : TypeId} {E : Nat → Value} {d : Option Nat} {ty : TypeId} {pos : String} {af : Array Edge} {g : Option (Nat × Bool)} {F : Nat → Prop} {w : World} {μ : eV} {L : List (Nat × Obj)}
theorem kQ.val {c : List (κ × Value)} {es : Array MapEntry} {clock : Nat} (h : kQ kenc (fun x => x) c es clock) {i : Nat} {e : MapEntry} (he : es[i]? = some e) : ∃ p, c[i]? = some p ∧ e.key = kenc p.1 ∧ e.val = p.2 := by
 have a := aG (fun q => q[i]?) h.oL
 simp only [cD, bB, he, dr] at a
 cases hp : c[i]? with
 | none => rw [hp] at a; cases a
 | some p =>
  rw [hp] at a
  simp only [dr, ec, Prod.mk.injEq] at a
  exact ⟨p, rfl, a.1, a.2⟩
end
end Go.Proofs.Ytcafmokjkjcomaa
namespace Go.Proofs.Ytcafmokjkjcomaa
open Go.RowKit
variable {dd : Bool}
section
variable {κ γ : Type} {Q : Value → γ → List (Nat × Obj) → Prop} {beq : κ → κ → Bool} {kenc : κ → Value}
def nl (kenc : κ → Value) (Q : Value → γ → List (Nat × Obj) → Prop) (v : Value) (l : List (κ × γ)) (R : List (Nat × Obj)) : Prop := ∃ a, gY kenc Q v a l R
def ji (kenc : κ → Value) (Q : Value → γ → List (Nat × Obj) → Prop) (μ : eV) (v : Value) (l : List (κ × γ)) : Prop := ∃ a R, gY kenc Q v a l R ∧ ∀ b o, (b, o) ∈ R → μ b = some o
theorem nl.at {v : Value} {l : List (κ × γ)} {R : List (Nat × Obj)} {μ : eV} (h : nl kenc Q v l R) (a : ∀ b o, (b, o) ∈ R → μ b = some o) : ji kenc Q μ v l := let ⟨c, h⟩ := h; ⟨c, R, h, a⟩
theorem ji.mono {v : Value} {l : List (κ × γ)} {μ μ' : eV} (h : ji kenc Q μ v l) (d : eT μ μ') : ji kenc Q μ' v l := let ⟨g, R, h, a⟩ := h; ⟨g, R, h, fun b o c => d _ _ (a b o c)⟩
theorem gY.form {v : Value} {a : List (κ × Value)} {l : List (κ × γ)} {R : List (Nat × Obj)} (h : gY kenc Q v a l R) : ∃ m, v = .map (some m) := let ⟨_, _, _, h, _⟩ := h; h.form
theorem gY.e {v : Value} {a : List (κ × Value)} {l : List (κ × γ)} {R : List (Nat × Obj)} (h : gY kenc Q v a l R) : nl kenc Q v l R := ⟨a, h⟩
theorem nl.form {v : Value} {l : List (κ × γ)} {R : List (Nat × Obj)} (h : nl kenc Q v l R) : ∃ m, v = .map (some m) := let ⟨_, h⟩ := h; h.form
theorem nl.new {v : Value} {R : List (Nat × Obj)} (h : jt (β := Value) kenc (fun x => x) v [] R) : nl kenc Q v [] R := ⟨[], R, [], (bY R).symm, h, rfl⟩
theorem gY.rowAt {α : Type} {e : TypeId} {enc : α → List Value} {n : Nat} {g : Value} {c : List (κ × Value)} {l : List (κ × List α)} {R : List (Nat × Obj)} (hk : ∀ {x y : κ}, beq x y = true → x = y) (h : gY kenc (fp e enc n) g c l R) (k : κ) :
  ∃ R1, fp e enc n (kM beq c k (.slice none 0 0)) ((gL beq l k).getD []) R1 ∧ ∀ b o, (b, o) ∈ R1 → (b, o) ∈ R := by
 cases a : gL beq l k with
 | none => refine ⟨[], ?_, fun b o h => by cases h⟩; rw [kM, h.wy a]; exact .inl ⟨rfl, rfl, rfl⟩
 | some x =>
  obtain ⟨v, A, R1, B, g1, rfl, g3, _⟩ := h.found hk a
  refine ⟨R1, ?_, fun b o d => by simp [d]⟩
  rw [kM, g1]; exact g3
end
theorem kD.hp (W : World) : kD (hp W) [] W := ⟨fun _ _ h => h, fun _ _ h => by cases h⟩
section
variable {P : Program} {W : World} {E : Nat → Value} {d : Option Nat} {ty : TypeId} {pos : String} {af : Array Edge} {g : Option (Nat × Bool)} {F : Nat → Prop} {w : World} {μ : eV} {L : List (Nat × Obj)}
theorem vM {κ γ : Type} {c : Value → World → Prop} {t : TypeId} (kenc : κ → Value) (Q : Value → γ → List (Nat × Obj) → Prop) (a : ST dd F w W μ L) (i : ∀ W' v R, ST dd F w W' μ (R ++ L) → nl kenc Q v [] R → c v W') : gK P E ⟨d, .makeMap t none, ty, pos, af, g⟩ W c :=
 wS kenc (fun x : Value => x) a (fun W' v R h1 h => i W' v R h1 (nl.new h))
end
end Go.Proofs.Ytcafmokjkjcomaa
namespace Go.Proofs.Ytcafmokjkjcomaa
open Go.RowKit
section
variable {P : Program} {ops : Array Oper} {Q : Exit → Act → World → Prop} {S : Array Bool → World → Prop}
def mT (ops : Array Oper) (l : Array Bool) : Prop := ∀ j o, ops[j]? = some o → l.getD j true = true → ∀ e ∈ o.after, Region.binds .any e = true → l.getD e.on true = true
def ua (ops : Array Oper) (i : Nat) (l : Array Bool) : Prop := mT ops l ∧ l.getD i true = false
theorem mT.start (n : Nat) (h : n = ops.size) : mT ops (Array.replicate n false) := by
 subst h
 intro j o d c
 have a : j < ops.size := (bH.1 d).1
 simp [a] at c
theorem mT.set {l : Array Bool} {i : Nat} (h : mT ops l) (t : i ∈ Region.ready .any ops l) : mT ops (l.setIfInBounds i true) := by
 intro j o s q e he p
 have up : ∀ {k : Nat}, l.getD k true = true → (l.setIfInBounds i true).getD k true = true := fun {k} hk => by
  by_cases d : i = k
  ·subst d
   by_cases n : i < l.size
   ·simp [n]
   ·simp [n]
  ·rw [getD_set_ne true d]; exact hk
 by_cases c : i = j
 ·subst c
  obtain ⟨_, u, g, a⟩ := eG.1 t
  rw [s] at g
  cases g
  refine up ?_
  have := a e he p
  by_cases n : e.on < l.size
  ·simp [n] at this ⊢; exact this
  ·simp [n]
 ·rw [getD_set_ne true c] at q
  exact up (h j o s q e he p)
def pu (P : Program) (ops : Array Oper) (S : Array Bool → World → Prop) (i : Nat) (o : Oper) (v : Value) (a : Act) : Prop :=
 (Region.wanted o (yielded ops a.tmps) = true ∧ ∀ l w, ua ops i l → S l w → (execOp a.eval o).run P w = .ok (.value v) w) ∨
 (Region.wanted o (yielded ops a.tmps) = false ∧ v = undef)
theorem pu.AI {i : Nat} {o : Oper} {v : Value} {a : Act} {l : Array Bool} (h : pu P ops S i o v a) (hp : ua ops i l) : YieldsIf P ops (S l) o v a :=
 h.imp (fun ⟨h1, c⟩ => ⟨h1, fun w hw => c l w hp hw⟩) id
def xn (P : Program) (ops : Array Oper) (Q : Exit → Act → World → Prop) (S : Array Bool → World → Prop) : Nat → Array Bool → Act → World → Prop
 | 0, l, a, w => Region.ready .any ops l = [] ∧ Q .normal a w
 | n + 1, l, a, w => (Region.ready .any ops l = [] → Q .normal a w) ∧
  ∀ i ∈ Region.ready .any ops l, wpOp P ops Q i (fun d c => S (l.setIfInBounds i true) c ∧ xn P ops Q S n (l.setIfInBounds i true) d c) a w
theorem vj : ∀ (n : Nat) (l : Array Bool) (a : Act) (w : World), xn P ops Q S n l a w → wpAny P .any ops Q n l a w
 | 0, _, _, _, h => h
 | n + 1, _, _, _, h => ⟨h.1, fun i g => wpOp_mono (fun c j d => vj n _ c j d.2) (h.2 i g)⟩
theorem xo {i j : Nat} {d q : Oper} {v : Value} (x : ops[j]? = some q) (n : d.apart ops q = true) (o : ∀ cs b, d.op ≠ .select cs b) (p : ∀ cs b, q.op ≠ .select cs b) (u : ∀ c a w, Q (.panic c) (a.put d.dst v) w → Q (.panic c) a w) {K : Act → World → Prop} {a : Act} {w : World} (y : pu P ops S i d v a) (h : wpOp P ops Q j K (a.put d.dst v) w) :
  wpOp P ops Q j (fun g t => pu P ops S i d v g ∧ K (g.put d.dst v) t) a w := by
 have h1 : YieldsIf P ops (fun w => ∃ l, ua ops i l ∧ S l w) d v a := y.imp (fun ⟨h1, k⟩ => ⟨h1, fun w ⟨l, hp, hw⟩ => k l w hp hw⟩) id
 refine wpOp_mono (fun g t s => ⟨s.1.imp (fun ⟨h1, k⟩ => ⟨h1, fun l w hp hw => k w ⟨l, hp, hw⟩⟩) id, s.2⟩) (wpOp_putIf (S := fun w => ∃ l, ua ops i l ∧ S l w) x n o p u h1 h)
theorem sO {i : Nat} {z : Oper} {v : Value} (T : ops[i]? = some z) (u : ∀ (j : Nat) (o : Oper) cs b, ops[j]? = some o → o.op ≠ .select cs b) (hQ : ∀ c a w, Q (.panic c) (a.put z.dst v) w → Q (.panic c) a w) (hm : ∀ l w, S (l.setIfInBounds i true) w → S l w) :
  ∀ (n : Nat) (l : Array Bool) (a : Act) (w : World), (∀ j A, ops[j]? = some A → j ≠ i → l.getD j true = false → (∀ e ∈ A.after, Region.binds .any e = true → e.on ≠ i) → z.apart ops A = true) →
   mT ops l → i ∈ Region.ready .any ops l → pu P ops S i z v a → S (l.setIfInBounds i true) w → xn P ops Q S n (l.setIfInBounds i true) (a.put z.dst v) w → xn P ops Q S (n + 1) l a w := by
 intro n
 induction n with
 | zero =>
  intro l a w _ K s L D H
  refine ⟨fun h => (by rw [h] at s; cases s), fun j F => ?_⟩
  by_cases d : j = i
  ·subst d
   exact (L.AI ⟨K, (eG.1 s).1⟩).wpOp T (hm l w D) ⟨D, H⟩
  ·have := ready_mono F d
   rw [H.1] at this
   cases this
 | succ n ih =>
  intro l a w p K s L D H
  refine ⟨fun h => (by rw [h] at s; cases s), fun j F => ?_⟩
  by_cases d : j = i
  ·subst d
   exact (L.AI ⟨K, (eG.1 s).1⟩).wpOp T (hm l w D) ⟨D, H⟩
  have h1 := H.2 j (ready_mono F d)
  obtain ⟨t, A, y, E⟩ := eG.1 F
  have I : ∀ e ∈ A.after, Region.binds .any e = true → e.on ≠ i := fun e he hb R => by
   have x := E e he hb
   have Z := (eG.1 s).1
   rw [R] at x
   rcases Nat.lt_or_ge i l.size with M | M
   ·simp [M] at Z x; rw [Z] at x; cases x
   ·simp [Array.getElem?_eq_none M] at x
  have x := xo y (p j A y d t I) (fun cs b => u i z cs b T) (fun cs b => u j A cs b y) hQ L h1
  have q : ∀ k ok, ops[k]? = some ok → k ≠ i → (l.setIfInBounds j true).getD k true = false → (∀ e ∈ ok.after, Region.binds .any e = true → e.on ≠ i) → z.apart ops ok = true := fun k ok hk U J W => by
   refine p k ok hk U ?_ W
   by_cases G : j = k
   ·subst G; exact t
   ·rw [getD_set_ne true G] at J; exact J
  have g : (l.setIfInBounds i true).setIfInBounds j true = (l.setIfInBounds j true).setIfInBounds i true := Array.setIfInBounds_comm _ _ (Ne.symm d)
  refine wpOp_mono (fun a' Y O => ?_) x
  have h4 : S ((l.setIfInBounds j true).setIfInBounds i true) Y := by rw [← g]; exact O.2.1
  refine ⟨hm _ Y h4, ih (l.setIfInBounds j true) a' Y q (K.set F) (ready_mono s (Ne.symm d)) O.1 h4 ?_⟩
  rw [← g]
  exact O.2.2
end
def PX (P : Program) (n : Nat) (ops : Array Oper) (Q : gn) (S : Array Bool → World → Prop) (fuel : Nat) (listed : Array Bool) (E : Nat → Value) (W : World) : Prop :=
 mT ops listed → ∀ a, Ag n a E → xn P ops (lift n Q) S fuel listed a W
section
variable {P : Program} {n : Nat} {Q : gn} {E : Nat → Value} {W : World} {ops : Array Oper} {S : Array Bool → World → Prop} {fuel : Nat} {listed : Array Bool}
theorem xC {id : Nat} {l : List Oper} (S : Array Bool → World → Prop) (hm : P.follows .mixedOrders = true) (h : PX P n l.toArray Q S l.length (Array.replicate l.length false) E W.drew) : CW P n (.region id l.toArray true) Q E W := fun a c =>
 wp_region_any hm (vj _ _ _ _ (h (mT.start _ (by simp)) a c))
def pO (ops : Array Oper) (listed : Array Bool) (i : Nat) : Bool := Region.noSelect ops && Region.free .any ops listed i && (Region.ready .any ops listed).contains i
theorem tL {o : Oper} {dd : Nat} {v : Value} (i : Nat) (j : ops[i]? = some o) (hk : pO ops listed i = true) (hw : gE n ops E o) (q : o.dst = some dd) (s : dd < n) (hm : ∀ l w, S (l.setIfInBounds i true) w → S l w) (p : S (listed.setIfInBounds i true) W) (t : ∀ l W, ua ops i l → S l W → fC P E o W v W) (h : PX P n ops Q S fuel (listed.setIfInBounds i true) (gb E dd v) W) : PX P n ops Q S (fuel + 1) listed E W := fun g a c => by
 simp only [pO, aU] at hk
 have k : i ∈ Region.ready .any ops listed := by simpa using hk.2
 exact sO j (Region.noSelect_spec hk.1.1) (fun _ _ _ h => ur h) hm fuel listed a W (Region.free_spec j hk.1.2) g k (.inl ⟨hw.of c, fun l w hp d => by rw [c.eval]; exact t l w hp d⟩) p (by rw [q]; exact h (g.set k) _ (c.put s v))
theorem AS {A : Value → Prop} {o : Oper} {dd : Nat} (i : Nat) (g : ops[i]? = some o) (hk : pO ops listed i = true) (hw : gE n ops E o) (d : o.dst = some dd) (j : dd < n) (hm : ∀ l w, S (l.setIfInBounds i true) w → S l w) (c : S (listed.setIfInBounds i true) W) (k : ∃ p, A p ∧ ∀ W, fC P E o W p W) (h : ∀ p, A p → PX P n ops Q S fuel (listed.setIfInBounds i true) (gb E dd p) W) : PX P n ops Q S (fuel + 1) listed E W := by
 obtain ⟨p, h1, a⟩ := k
 exact tL i g hk hw d j hm c (fun _ W _ _ => a W) (h p h1)
theorem yJ {o : Oper} {dd : Nat} (i : Nat) (g : ops[i]? = some o) (hk : pO ops listed i = true) (hw : ∀ a, Ag n a E → Region.wanted o (yielded ops a.tmps) = false) (p : o.dst = some dd) (q : dd < n) (hm : ∀ l w, S (l.setIfInBounds i true) w → S l w) (k : S (listed.setIfInBounds i true) W) (h : PX P n ops Q S fuel (listed.setIfInBounds i true) (gb E dd undef) W) : PX P n ops Q S (fuel + 1) listed E W := fun d a c => by
 simp only [pO, aU] at hk
 have j : i ∈ Region.ready .any ops listed := by simpa using hk.2
 exact sO g (Region.noSelect_spec hk.1.1) (fun _ _ _ h => ur h) hm fuel listed a W (Region.free_spec g hk.1.2) d j (.inr ⟨hw a c, rfl⟩) k (by rw [p]; exact h (d.set j) _ (c.put q _))
theorem Ap {o : Oper} {dd j t : Nat} {want : Bool} (i : Nat) (q : ops[i]? = some o) (hk : pO ops listed i = true) (p : o.guard = some (j, want)) (s : (ops[j]?).bind (·.dst) = some t) (v : t < n) (c : E t = .bool (!want)) (k : o.dst = some dd) (u : dd < n) (hm : ∀ l w, S (l.setIfInBounds i true) w → S l w) (d : S (listed.setIfInBounds i true) W) (h : PX P n ops Q S fuel (listed.setIfInBounds i true) (gb E dd undef) W) : PX P n ops Q S (fuel + 1) listed E W :=
 yJ i q hk (fun a g => by have x := g.yield s v c; simp [Region.wanted, p, x]) k u hm d h
theorem zP {o : Oper} {dd : Nat} (i : Nat) (x : ops[i]? = some o) (k : Region.ready .any ops listed = [i]) (hw : gE n ops E o) (q : o.dst = some dd) (s : dd < n) (h : gK P E o W fun v W' => S (listed.setIfInBounds i true) W' ∧ PX P n ops Q S fuel (listed.setIfInBounds i true) (gb E dd v) W') : PX P n ops Q S (fuel + 1) listed E W := fun p a g => by
 have c : i ∈ Region.ready .any ops listed := by rw [k]; simp
 refine ⟨fun w => (by rw [w] at k; cases k), fun j t => ?_⟩
 rw [k] at t
 obtain rfl := aN.1 t
 unfold wpOp
 simp only [x]
 rw [aD (hw.of g)]
 refine .inl ?_
 unfold Oper.wp
 rw [g.eval]
 rcases h with ⟨v, W', h1, d⟩ | ⟨W', h1, d⟩ | ⟨f, args, h1, d⟩
 ·rw [h1, cq]; exact ⟨d.1, by rw [q]; exact d.2 (p.set c) _ (g.put s v)⟩
 ·rw [h1, cY]; exact ⟨d.1, by rw [q]; exact d.2 (p.set c) _ (g.put s _)⟩
 ·rw [h1, cr]
  refine bi d ?_
  rintro e y ⟨v, rfl, u⟩
  exact ⟨u.1, by simp only [q]; exact u.2 (p.set c) _ (g.put s v)⟩
theorem AA {o : Oper} (i : Nat) (w : ops[i]? = some o) (k : Region.ready .any ops listed = [i]) (hw : gE n ops E o) (q : o.dst = none) (h : gK P E o W fun _ W' => S (listed.setIfInBounds i true) W' ∧ PX P n ops Q S fuel (listed.setIfInBounds i true) E W') : PX P n ops Q S (fuel + 1) listed E W := fun p a g => by
 have c : i ∈ Region.ready .any ops listed := by rw [k]; simp
 refine ⟨fun u => (by rw [u] at k; cases k), fun j s => ?_⟩
 rw [k] at s
 obtain rfl := aN.1 s
 unfold wpOp
 simp only [w]
 rw [aD (hw.of g)]
 refine .inl ?_
 unfold Oper.wp
 rw [g.eval]
 rcases h with ⟨v, W', h1, d⟩ | ⟨W', h1, d⟩ | ⟨f, args, h1, d⟩
 ·rw [h1, cq, q]; exact ⟨d.1, d.2 (p.set c) _ (g.kv _)⟩
 ·rw [h1, cY, q]; exact ⟨d.1, d.2 (p.set c) _ (g.kv _)⟩
 ·rw [h1, cr]
  refine bi d ?_
  rintro e x ⟨v, rfl, t⟩
  simp only [q]
  exact ⟨t.1, t.2 (p.set c) _ (g.kv _)⟩
theorem jo (g : Region.ready .any ops listed = []) (h : Q .normal E W) : PX P n ops Q S fuel listed E W := fun _ a c => by
 cases fuel with
 | zero => exact ⟨g, E, c, h⟩
 | succ f => exact ⟨fun _ => ⟨E, c, h⟩, fun i d => by rw [g] at d; cases d⟩
theorem qJ {a : Array Bool} (c : listed = a) (h : PX P n ops Q S fuel a E W) : PX P n ops Q S fuel listed E W := by rw [c]; exact h
end
theorem pV.at {α : Type} {e : TypeId} {enc : α → List Value} {k : Nat} {v : Value} {l : List α} {R : List (Nat × Obj)} (h : fp e enc k v l R) (hk : ∀ x, (enc x).length = k) {p : Value} {i : Nat} (hp : pV R k p i) {x : α} (g : l[i]? = some x) : At (zh R) p (enc x) := by
 obtain ⟨c, a, cap, rfl, rfl, _, _, _, _, rfl, d⟩ := pC h hk hp g
 exact ⟨c, i * k, a, e, (0, 0), rfl, by simp [zh], d⟩
theorem lq.form {κ β : Type} {kenc : κ → Value} {vf : β → Value} {μ : eV} {v : Value} {l : List (κ × β)} (h : lq kenc vf μ v l) : ∃ r, v = .map r := by
 rcases h with ⟨h, _⟩ | ⟨m, es, clock, h, _⟩
 ·exact ⟨_, h⟩
 ·exact ⟨_, h⟩
noncomputable def ni {β : Type} (l : List (ByteArray × β)) : Option (List ByteArray) :=
 open Classical in if (l.map (·.1)).Nodup ∧ (∀ p ∈ l, p.1.size ≤ maxLen) ∧ l.length * 16 ≤ 140737488355328 then some (kz (l.map (·.1))) else none
theorem kX.zip {κ γ : Type} {Q : Value → γ → List (Nat × Obj) → Prop} : ∀ {g : List (κ × Value)} {l : List (κ × γ)} {R : List (Nat × Obj)}, kX Q g l R →
  ∃ a : List (κ × (Value × γ)), a.map (fun p => (p.1, p.2.1)) = g ∧ a.map (fun p => (p.1, p.2.2)) = l ∧ ∀ p ∈ a, ∃ R1, Q p.2.1 p.2.2 R1 ∧ ∀ x ∈ R1, x ∈ R
 | [], [], R, _ => ⟨[], rfl, rfl, fun _ h => by cases h⟩
 | [], _ :: _, _, h => h.elim
 | _ :: _, [], _, h => h.elim
 | p :: g, q :: l, R, h => by
  obtain ⟨h1, R1, R2, rfl, n, o⟩ := h
  obtain ⟨a, i, j, k⟩ := kX.zip o
  refine ⟨(q.1, (p.2, q.2)) :: a, by simp [i, ← h1], by simp [j], fun x c => ?_⟩
  rcases aB.1 c with rfl | c
  ·exact ⟨R1, n, fun y d => aW _ d⟩
  ·obtain ⟨R3, s, t⟩ := k x c
   exact ⟨R3, s, fun y d => bN _ (t y d)⟩
theorem ji.zip {κ κ2 β : Type} {kenc : κ → Value} {kenc2 : κ2 → Value} {vf : β → Value} {μ : eV} {v : Value} {l : List (κ × List (κ2 × β))} (h : ji kenc (jt kenc2 vf) μ v l) :
  ∃ a : List (κ × (Value × List (κ2 × β))), a.map (fun p => (p.1, p.2.2)) = l ∧ lq kenc (fun x => x.1) μ v a ∧ ∀ p ∈ a, lq kenc2 vf μ p.2.1 p.2.2 := by
 obtain ⟨u, R, ⟨s, t, rfl, ⟨m, es, clock, rfl, rfl, c⟩, n⟩, d⟩ := h
 obtain ⟨a, g, i, j⟩ := n.zip
 refine ⟨a, i, .inr ⟨m, es, clock, rfl, d _ _ (by simp), ⟨?_, c.born, c.lt⟩⟩, fun p hp => ?_⟩
 ·rw [c.oL, ← g]; simp
 ·obtain ⟨R1, h1, k⟩ := j p hp
  exact h1.at (fun b o q => d b o (bN _ (k _ q)))
section
variable {P : Program} {n : Nat} {Q : gn} {E : Nat → Value} {W : World} {ops : Array Oper} {rest : List Oper}
variable {dd : Bool} {α : Type} {enc : α → List Value} {k : Nat} {μ : eV} {v : Value}
variable {d : Option Nat} {ty : TypeId} {pos : String} {af : Array Edge} {g : Option (Nat × Bool)} {F : Nat → Prop} {w : World} {L : List (Nat × Obj)}
def uE (enc : α → List Value) (k : Nat) : jg (List α) := fun μ ys x => ∃ v, ys = [v] ∧ Sl (Pl enc) k μ v x
theorem uE.mono (enc : α → List Value) (k : Nat) : tz (uE enc k) := fun _ _ _ _ c ⟨v, h1, a⟩ => ⟨v, h1, a.mono (Pl.mono _) c⟩
inductive oA (enc : α → List Value) (k : Nat) (μ : eV) : List Value → List (List α) → Prop
 | nil : oA enc k μ [] []
 | cons {v : Value} {x : List α} {vs : List Value} {l : List (List α)} : Sl (Pl enc) k μ v x → oA enc k μ vs l → oA enc k μ (v :: vs) (x :: l)
theorem oA.length {vs : List Value} {l : List (List α)} (h : oA enc k μ vs l) : vs.length = l.length := by
 induction h with
 | nil => rfl
 | cons _ _ ih => simp [ih]
theorem oA.get {vs : List Value} {l : List (List α)} (h : oA enc k μ vs l) : ∀ (i : Nat) (x : List α), l[i]? = some x → ∃ v, vs[i]? = some v ∧ Sl (Pl enc) k μ v x := by
 induction h with
 | nil => intro i x a; simp at a
 | cons h1 _ ih =>
  intro i x a
  cases i with
  | zero => simp at a; subst a; exact ⟨_, rfl, h1⟩
  | succ i => simpa using ih i x (by simpa using a)
theorem uE.lit {b m : Nat} {vs : List Value} {e : TypeId} {l : List (List α)} (hm : l.length = m) (d : m ≤ maxLen) (g : μ b = some (.cells vs.toArray e (0, 0))) (h : oA enc k μ vs l) : Sl (uE enc k) 1 μ (.slice (some ⟨b, 0, none⟩) m m) l := by
 subst hm
 refine ⟨_, _, rfl, aM _, d, fun _ => ⟨b, 0, _, _, _, rfl, g, fun i x n => ?_⟩⟩
 obtain ⟨v, h1, c⟩ := h.get i x n
 refine ⟨[v], rfl, ⟨v, rfl, c⟩, fun j y a => ?_⟩
 cases j with
 | zero => simp at a; subst a; simpa using h1
 | succ j => simp at a
theorem xx {k2 : Nat} {t e : TypeId} {x a : Operand} {y : IntKind} {i : Int} {l : List (List α)} {x0 : List α} (s : P.underlying t = some (.slice e)) (he : ∀ w, (sizeOf e).run P w = .ok 1 w) (u : eL E x = v) (n : eL E a = .int y i) (q : Sl (uE enc k2) 1 μ v l) (c : 0 ≤ i) (o : l[i.toNat]? = some x0) :
  ∃ p, (∃ v0, At μ p [v0] ∧ Sl (Pl enc) k2 μ v0 x0) ∧ ∀ W, fC P E ⟨d, .indexAddr t x a, ty, pos, af, g⟩ W p W := by
 obtain ⟨p, ys, h1, ⟨v0, rfl, h⟩, j, k⟩ := sv (d := d) (ty := ty) (pos := pos) (af := af) (g := g) s he u n q c o
 exact ⟨p, ⟨v0, j, h⟩, k⟩
end
theorem zp {p : Prop} [Decidable p] {u : Unit} (h : jS (decide p) = some u) : p := cW (rr h)
variable {dd : Bool}
section
variable {κ α : Type} {beq : κ → κ → Bool} {kenc : κ → Value} {t : TypeId} {enc : α → List Value}
variable {P : Program} {W : World} {kt : TypeId} {E : Nat → Value} {d : Option Nat} {ty : TypeId} {pos : String} {af : Array Edge} {g : Option (Nat × Bool)} {F : Nat → Prop} {w : World} {μ : eV} {L : List (Nat × Obj)}
theorem uK {γ d : Type} {l : List (κ × γ)} {m : List (κ × d)} {k : κ} (h : l.findIdx? (fun p => beq k p.1) = m.findIdx? (fun p => beq k p.1)) : (gL beq l k).isSome = (gL beq m k).isSome := by
 rw [kL, kL, h]
 cases a : m.findIdx? (fun p => beq k p.1) with
 | none => rfl
 | some i =>
  obtain ⟨p, hp, _⟩ := kl a
  rw [a] at h
  obtain ⟨q, c, _⟩ := kl h
  simp [hp, c]
theorem pq {γ : Type} {Q : Value → γ → List (Nat × Obj) → Prop} {t e : TypeId} {m x : Operand} {i z : Value} {c : List (κ × Value)} {l : List (κ × γ)} {R : List (Nat × Obj)} {k : κ} (K : lL P kt kenc beq) (s : P.underlying t = some (.map kt e)) (v : ∀ w, (zeroValue e).run P w = .ok z w) (hm : eL E m = i) (u : eL E x = kenc k) (p : gY kenc Q i c l R) (q : ∀ b o, (b, o) ∈ R → W.heap[b]? = some o) : fC P E ⟨d, .lookup t m x true, ty, pos, af, g⟩ W (.tuple #[kM beq c k z, .bool (gL beq l k).isSome]) W := by
 obtain ⟨y, A, rfl, j, n⟩ := p
 have a := vT (d := d) (ty := ty) (pos := pos) (af := af) (g := g) K s v hm u (j.at (μ := hp W) (fun b o h => q b o (aW _ h)))
 rw [uK (n.find k)] at a
 exact a
end
section
variable {P : Program} {fn : Func} {R : Ending → World → Prop} {E : Nat → Value} {W : World}
theorem vt {a : Tmp} {t0 : TypeId} {a0 : Addr} {v0 : Value} {c : Tmp} {v1 : Value} (g : fn.results = #[.cell a t0, .tmp c]) (d : E a = .pointer (some a0)) (j : (Instr.loadAt t0 (.pointer (some a0))).run P W = .ok v0 W) (h1 : E c = v1) (h : R (.returned (.tuple #[v0, v1])) W) : lo P fn R .ret E W :=
 ⟨.tuple #[v0, v1], fun tmps i => by
  have k : (loadVar t0 a0).run P W = .ok v0 W := by simpa [Instr.loadAt, Instr.sureAddr] using j
  simp [results, g, i, asAddr, d, k, h1], h⟩
end
end Go.Proofs.Ytcafmokjkjcomaa
namespace Go.Proofs.Ytcafmokjkjcomaa
open Go.RowKit
section
variable {x y : Nat × Obj} {A B C L R S : List (Nat × Obj)}
theorem Pz : (x :: A).Perm (x :: A) := .refl _
theorem Pb (h : A.Perm (x :: B)) : (y :: A).Perm (x :: y :: B) := (h.cons y).trans (.swap ..)
theorem Pr (h : A.Perm (x :: B)) : (S ++ A).Perm (x :: (S ++ B)) := (h.append_left S).trans dC
theorem Qz : (R ++ A).Perm (R ++ A) := .refl _
theorem Qb (h : A.Perm (R ++ B)) : (y :: A).Perm (R ++ (y :: B)) := (h.cons y).trans List.perm_middle.symm
theorem Qr (h : A.Perm (R ++ B)) : (S ++ A).Perm (R ++ (S ++ B)) := (h.append_left S).trans (dO S R B)
def fM (L L' : List (Nat × Obj)) : Prop := ∃ M, L.Perm (L' ++ M)
theorem Sn : fM L [] := ⟨L, .refl _⟩
theorem St : fM L L := ⟨[], by rw [bY]⟩
theorem Sb (h : L.Perm (x :: A)) (k : fM A B) : fM L (x :: B) := let ⟨M, m⟩ := k; ⟨M, h.trans (m.cons x)⟩
theorem Sr (h : L.Perm (R ++ A)) (k : fM A B) : fM L (R ++ B) := let ⟨M, m⟩ := k; ⟨M, by rw [aO]; exact h.trans (m.append_left R)⟩
theorem Kb (k : fM A B) : fM (x :: A) (x :: B) := Sb Pz k
theorem Kr (k : fM A B) : fM (R ++ A) (R ++ B) := Sr Qz k
theorem Db (k : fM A B) : fM (x :: A) B := let ⟨M, m⟩ := k; ⟨x :: M, (m.cons x).trans List.perm_middle.symm⟩
theorem Dr (k : fM A B) : fM (R ++ A) B := let ⟨M, m⟩ := k; ⟨R ++ M, (m.append_left R).trans (dO R B M)⟩
theorem fM.mem (s : fM L A) : ∀ p, p ∈ A → p ∈ L := fun p hp => let ⟨M, m⟩ := s; m.mem_iff.2 (aW _ hp)
theorem ST.eS {dd : Bool} {F : Nat → Prop} {w W : World} {μ : eV} (h : ST dd F w W μ L) (s : fM L A) : ST dd F w W μ A := let ⟨M, m⟩ := s; (h.perm m).sublist (List.sublist_append_left A M)
theorem kD.eS {μ : eV} {W : World} (h : kD μ L W) (s : fM L A) : kD μ A W := h.sub (eT.refl _) s.mem
theorem kD.oT {μ μ' : eV} {W : World} (h : kD μ L W) (a : eT μ' μ) (s : fM L A) : kD μ' A W := h.sub a s.mem
theorem Cn : L.Perm ([] ++ L) := .refl _
theorem Cb (h : L.Perm (x :: A)) (k : A.Perm (B ++ C)) : L.Perm ((x :: B) ++ C) := h.trans (k.cons x)
theorem Cr (h : L.Perm (R ++ A)) (k : A.Perm (B ++ C)) : L.Perm ((R ++ B) ++ C) := by rw [aO]; exact h.trans (k.append_left R)
theorem C0 (k : L.Perm (B ++ C)) : L.Perm (([] ++ B) ++ C) := k
theorem Tn : ([] ++ A).Perm A := .refl _
theorem Tb (h : (A ++ B).Perm C) : ((x :: A) ++ B).Perm (x :: C) := h.cons x
theorem Tr (h : (A ++ B).Perm C) : ((R ++ A) ++ B).Perm (R ++ C) := by rw [aO]; exact h.append_left R
theorem Nb (h : L.Perm (x :: A)) (k : A.Perm B) : L.Perm (x :: B) := h.trans (k.cons x)
theorem Nr (h : L.Perm (R ++ A)) (k : A.Perm B) : L.Perm (R ++ B) := h.trans (k.append_left R)
theorem Nz : L.Perm L := .refl _
theorem Mh : x ∈ x :: A := .head _
theorem Mt (h : x ∈ A) : x ∈ y :: A := .tail _ h
theorem Ma (h : x ∈ A) : x ∈ R ++ A := bN _ h
theorem Ml (h : x ∈ R) : x ∈ R ++ A := aW _ h
end
section
variable {dd : Bool} {F : Nat → Prop} {w W : World} {μ : eV} {L L0 L1 Y R : List (Nat × Obj)}
theorem ST.Bc (h : ST dd fY w W μ L) (s : fM L L1) : iF dd [] L1 w W := let ⟨_, m⟩ := s; (h.perm m).AD
theorem ST.fR (h : ST dd (keys L0) w W μ L) (s : fM L L1) : iF dd L0 L1 w W := let ⟨_, m⟩ := s; (h.perm m).Ae
theorem ST.rN : ∀ {R : List (Nat × Obj)} {μ : eV}, ST dd F w W μ (R ++ Y) → ∃ μ', ST dd F w W μ' Y ∧ eT μ μ' ∧ Lo F w μ μ' ∧ ∀ b o, (b, o) ∈ R → μ' b = some o
 | [], μ, h => ⟨μ, h, eT.refl _, Lo.refl, fun _ _ h => by cases h⟩
 | (g, o) :: R, μ, h => by
  have c : ST dd F w W μ ([] ++ (g, o) :: (R ++ Y)) := h
  obtain ⟨μ', d, a2, a3, a4⟩ := ST.rN (R := R) (ST.qC (A := []) c)
  refine ⟨μ', d, (ST.qy (A := []) c).trans a2, (ST.uo (A := []) c).trans a3, fun b i a => ?_⟩
  rcases aB.1 a with a | a
  ·cases a; exact a2 _ _ (aD rfl)
  ·exact a4 b i a
theorem ST.sG {α : Type} {e' : TypeId} {enc : α → List Value} {k : Nat} {v : Value} {l : List α} (a : ST dd F w W μ (R ++ Y)) (h : fp e' enc k v l R) (hk : ∀ x, (enc x).length = k) : ∃ μ', ST dd F w W μ' Y ∧ eT μ μ' ∧ Lo F w μ μ' ∧ Sl (Pl enc) k μ' v l := by
 obtain ⟨μ', c, a2, a3, a4⟩ := ST.rN a
 exact ⟨μ', c, a2, a3, h.sl hk a4⟩
section
variable {P : Program} {n : Nat} {Q : gn} {E : Nat → Value} {V : World} {id : Nat} {l : List Oper} {A B C : List (Nat × Obj)}
theorem gU (a : kD μ A V.drew) (hm : P.follows .mixedOrders = true) (h : PX P n l.toArray Q (fun _ W => kD μ A W) l.length (Array.replicate l.length false) E V.drew) : CW P n (.region id l.toArray true) Q E V := xC _ hm h
end
structure jL (μ : eV) (L0 : List (Nat × Obj)) (w : World) : Prop where
 H : pD L0 w
 N : (L0.map (·.1)).Nodup
 S : eT μ (iR w L0)
theorem ST.kG (h : jL μ L0 w) : ST dd (keys L0) w w μ L0 := (ST.zw h.H h.N).gz h.S
end
section
variable {dd : Bool} {P : Program} {E : Nat → Value} {W : World} {d : Option Nat} {ty : TypeId} {pos : String} {af : Array Edge} {g : Option (Nat × Bool)} {F : Nat → Prop} {w : World} {μ : eV} {L : List (Nat × Obj)}
theorem fD {K : Value → World → Prop} {B : List (Nat × Obj)} {t : TypeId} {x y : Operand} (v : Value) {b off : Nat} {cs : Array Value} {T : TypeId} (cs' : Array Value) (a : ST dd F w W μ ((b, .cells cs T (0, 0)) :: B)) (k : eL E x = .pointer (some ⟨b, off, none⟩)) (n : eL E y = v) (c : ∀ w, (sizeOf t).run P w = .ok v.cells.size w) (h1 : ∀ u ∈ v.cells.toList, u.oneCell' = true) (j : off + v.cells.size ≤ cs.size) (i : (cs.toList.take off ++ v.cells.toList ++ cs.toList.drop (off + v.cells.size)).toArray = cs') (h : ∀ W', ST dd F w W' μ ((b, .cells cs' T (0, 0)) :: B) → K undef W') : gK P E ⟨d, .store t x y, ty, pos, af, g⟩ W K := nW [] v cs' a k n c h1 j i h
end
section
variable {dd : Bool}
variable {P : Program} {n : Nat} {Q : gn} {E : Nat → Value} {W : World} {ops : Array Oper} {rest : List Oper}
 {d : Option Nat} {ty : TypeId} {pos : String} {af : Array Edge} {g : Option (Nat × Bool)}
 {F : Nat → Prop} {w : World} {μ : eV} {L : List (Nat × Obj)}
theorem mx {K : Value → World → Prop} {α : Type} {e t : TypeId} {enc : α → List Value} {k a : Nat} {z v vs : Value} {l m r : List α} {R Y : List (Nat × Obj)} {x y : Operand} {i : TypeInfo} (c : ST dd F w W μ (R ++ Y)) (hk : ∀ x, (enc x).length = k) (n : 0 < k) (h1 : ∀ x, ∀ u ∈ enc x, u.oneCell' = true) (I : P.underlying t = some (.slice e)) (D : P.info? e = some i) (M : i.zero = some z) (p : z.cells.size = k) (o : i.size = k) (j : i.bytes = a) (J : eL E x = v) (L : eL E y = vs) (s : fp e enc k v l R) (G : Sl (Pl enc) k (hp W) vs m) (A : kN a l m = some r) (h : ∀ W' q R', ST dd F w W' μ (R' ++ Y) → fp e enc k q r R' → K q W') : gK P E ⟨d, .call ⟨.builtin .append, #[x, y], #[t, t]⟩, ty, pos, af, g⟩ W K :=
 xM [] c hk n h1 I D M p o j J L s G A h
end
section
variable {dd : Bool}
variable {P : Program} {E : Nat → Value} {W : World} {d : Option Nat} {ty : TypeId} {pos : String} {af : Array Edge} {g : Option (Nat × Bool)}
 {F : Nat → Prop} {w : World} {μ : eV} {L : List (Nat × Obj)}
theorem vG {K : Value → World → Prop} {α : Type} {e : TypeId} {enc : α → List Value} {k : Nat} {l : List α} {f : FuncId} {fv : Operand} {ax : Array Operand} {ats : Array TypeId} {caps : Array Value} {args : List Value} (Y : List (Nat × Obj)) (a : ST dd F w W μ Y) (j : eL E fv = .func (.func f) #[] caps) (he : ∀ args w, (callFunc f args).run P w = .ok (.enter f args) w) (c : ax.map (eL E) ++ caps = args.toArray) (i : gu dd P f args W e enc k l) (h : ∀ W' v μ' R, ST dd F w W' μ' (R ++ Y) → eT μ μ' → Lo F w μ μ' → fp e enc k v l R → K v W') : gK P E ⟨d, .call ⟨.value fv, ax, ats⟩, ty, pos, af, g⟩ W K :=
 wc [] Y a j he c i h
end
section
variable {dd : Bool}
variable {P : Program} {E : Nat → Value} {W : World} {d : Option Nat} {ty : TypeId} {pos : String} {af : Array Edge} {g : Option (Nat × Bool)}
 {F : Nat → Prop} {w : World} {μ : eV} {L : List (Nat × Obj)} {α : Type} {e' : TypeId} {enc : α → List Value} {k : Nat} {v : Value} {l : List α} {R : List (Nat × Obj)}
theorem pB {K : Value → World → Prop} {Y : List (Nat × Obj)} {t : TypeId} {x y : Operand} {p u : Value} {i : Nat} {x0 x1 : α} (a : ST dd F w W μ (R ++ Y)) (h : fp e' enc k v l R) (hk : ∀ x, (enc x).length = k) (h1 : ∀ x, ∀ u ∈ enc x, u.oneCell' = true) (o : eL E x = p) (q : eL E y = u) (hu : u.cells = (enc x1).toArray) (hp : pV R k p i) (n : l[i]? = some x0) (j : ∀ w, (sizeOf t).run P w = .ok k w) (c : ∀ W' R', ST dd F w W' μ (R' ++ Y) → fp e' enc k v (l.set i x1) R' → K undef W') : gK P E ⟨d, .store t x y, ty, pos, af, g⟩ W K :=
 wk [] a h hk h1 o q hu hp n j c
end
section
variable {dd : Bool}
variable {P : Program} {E : Nat → Value} {W : World} {d : Option Nat} {ty : TypeId} {pos : String} {af : Array Edge} {g : Option (Nat × Bool)}
 {F : Nat → Prop} {w : World} {μ : eV} {L : List (Nat × Obj)} {α : Type} {e' : TypeId} {enc : α → List Value} {k : Nat} {v : Value} {l : List α} {R : List (Nat × Obj)}
theorem qX {K : Value → World → Prop} (z : α) {Y : List (Nat × Obj)} {t e : TypeId} {x : Operand} {u c : Value} {i : Nat} (a : ST dd F w W μ (R ++ Y)) (h : fp e' enc k v l R) (hk : ∀ x, (enc x).length = k) (h1 : ∀ x, ∀ u ∈ enc x, u.oneCell' = true) (o : P.underlying t = some (.slice e)) (q : ∀ w, (zeroValue e).run P w = .ok c w) (hu : sc k v i u) (n : c.cells = (enc z).toArray) (p : eL E x = u) (j : ∀ W' R', ST dd F w W' μ (R' ++ Y) → fp e' enc k v (je l i z) R' → K (.tuple #[]) W') : gK P E ⟨d, .call ⟨.builtin .clear, #[x], #[t]⟩, ty, pos, af, g⟩ W K :=
 uZ z [] a h hk h1 o q hu n p j
end
section
variable {dd : Bool}
variable {κ γ : Type} {Q : Value → γ → List (Nat × Obj) → Prop} {beq : κ → κ → Bool} {kenc : κ → Value}
variable {P : Program} {W : World} {kt : TypeId} {E : Nat → Value} {d : Option Nat} {ty : TypeId} {pos : String} {af : Array Edge} {g : Option (Nat × Bool)} {F : Nat → Prop} {w : World} {μ : eV} {L : List (Nat × Obj)}
variable {κ2 β : Type} {kenc2 : κ2 → Value} {vf : β → Value} {beq2 : κ2 → κ2 → Bool} {kt2 : TypeId}
theorem xv {i : Value → World → Prop} {Y R R2 : List (Nat × Obj)} {t e : TypeId} {m x y : Operand} {c : Value} {n : List (κ × Value)} {l j : List (κ × γ)} {k : κ} {u : Value} {z : γ} (K : lL P kt kenc beq) (s : P.underlying t = some (.map kt e)) (a : ST dd F w W μ (R ++ (R2 ++ Y))) (h : gY kenc Q c n l R) (hm : eL E m = c) (v : eL E x = kenc k) (A : eL E y = u) (q : Q u z R2) (p : uD beq l k z = some j) (o : ∀ W' R', ST dd F w W' μ (R' ++ Y) → gY kenc Q c (lz beq n k u) j R' → i undef W') : gK P E ⟨d, .mapUpdate t m x y, ty, pos, af, g⟩ W i :=
 wU [] K s a h hm v A q p o
end
section
variable {P : Program} {n : Nat} {Q : gn} {E : Nat → Value} {W : World} {ops : Array Oper} {rest : List Oper}
variable {d j t : Nat} {want : Bool} {v : Value} {ins : Go.Op} {ty : TypeId} {pos : String} {af : Array Edge} {A : Value → Prop}
theorem V (c : fC P E ⟨some d, ins, ty, pos, af, none⟩ W v W) (h : LW P n ops Q rest (gb E d v) W) (a : d < n := by decide) : LW P n ops Q (⟨some d, ins, ty, pos, af, none⟩ :: rest) E W := sM (.inl rfl) rfl a c h
theorem VE (h : gK P E ⟨some d, ins, ty, pos, af, none⟩ W fun v W' => LW P n ops Q rest (gb E d v) W') (a : d < n := by decide) : LW P n ops Q (⟨some d, ins, ty, pos, af, none⟩ :: rest) E W := zD (.inl rfl) rfl a h
theorem VO (h : gK P E ⟨none, ins, ty, pos, af, none⟩ W fun _ W' => LW P n ops Q rest E W') : LW P n ops Q (⟨none, ins, ty, pos, af, none⟩ :: rest) E W := Af (.inl rfl) rfl h
theorem VQ (c : ∃ p, A p ∧ ∀ W, fC P E ⟨some d, ins, ty, pos, af, none⟩ W p W) (h : ∀ p, A p → LW P n ops Q rest (gb E d p) W) (a : d < n := by decide) : LW P n ops Q (⟨some d, ins, ty, pos, af, none⟩ :: rest) E W := zZ (.inl rfl) rfl a c h
theorem Vg (c : (ops[j]?).bind (·.dst) = some t) (a : E t = .bool want) (i : fC P E ⟨some d, ins, ty, pos, af, some (j, want)⟩ W v W) (h : LW P n ops Q rest (gb E d v) W) (k : t < n := by decide) (g : d < n := by decide) : LW P n ops Q (⟨some d, ins, ty, pos, af, some (j, want)⟩ :: rest) E W := sM (.inr ⟨j, want, t, rfl, c, k, a⟩) rfl g i h
theorem qT (c : (ops[j]?).bind (·.dst) = some t) (a : E t = .bool want) (h : gK P E ⟨some d, ins, ty, pos, af, some (j, want)⟩ W fun v W' => LW P n ops Q rest (gb E d v) W') (i : t < n := by decide) (g : d < n := by decide) : LW P n ops Q (⟨some d, ins, ty, pos, af, some (j, want)⟩ :: rest) E W := zD (.inr ⟨j, want, t, rfl, c, i, a⟩) rfl g h
theorem Ba (c : (ops[j]?).bind (·.dst) = some t) (a : E t = .bool want) (i : ∃ p, A p ∧ ∀ W, fC P E ⟨some d, ins, ty, pos, af, some (j, want)⟩ W p W) (h : ∀ p, A p → LW P n ops Q rest (gb E d p) W) (k : t < n := by decide) (g : d < n := by decide) : LW P n ops Q (⟨some d, ins, ty, pos, af, some (j, want)⟩ :: rest) E W := zZ (.inr ⟨j, want, t, rfl, c, k, a⟩) rfl g i h
theorem Vn (c : (ops[j]?).bind (·.dst) = some t) (a : E t = .bool (!want)) (h : LW P n ops Q rest (gb E d undef) W) (i : t < n := by decide) (g : d < n := by decide) : LW P n ops Q (⟨some d, ins, ty, pos, af, some (j, want)⟩ :: rest) E W := Ao rfl g rfl c i a h
end
section
variable {P : Program} {n : Nat} {Q : gn} {E : Nat → Value} {W : World} {ops : Array Oper} {S : Array Bool → World → Prop} {fuel : Nat} {listed : Array Bool} {μ : eV} {B : List (Nat × Obj)}
variable {d j t : Nat} {want : Bool} {v : Value} {ins : Go.Op} {ty : TypeId} {pos : String} {af : Array Edge} {A : Value → Prop}
theorem X (i : Nat) (c : ops[i]? = some ⟨some d, ins, ty, pos, af, none⟩) (a : S (listed.setIfInBounds i true) W) (j : ∀ {W}, fC P E ⟨some d, ins, ty, pos, af, none⟩ W v W) (h : PX P n ops Q S fuel (listed.setIfInBounds i true) (gb E d v) W) (hk : pO ops listed i = true := by kernel_rfl) (hm : ∀ l w, S (l.setIfInBounds i true) w → S l w := by exact fun _ _ h => h) (g : d < n := by decide) : PX P n ops Q S (fuel + 1) listed E W := tL i c hk (.inl rfl) rfl g hm a (fun _ _ _ _ => j) h
theorem XH (i : Nat) (c : ops[i]? = some ⟨some d, ins, ty, pos, af, none⟩) (a : kD μ B W) (j : ∀ W, kD μ B W → fC P E ⟨some d, ins, ty, pos, af, none⟩ W v W) (h : PX P n ops Q (fun _ W => kD μ B W) fuel (listed.setIfInBounds i true) (gb E d v) W) (hk : pO ops listed i = true := by kernel_rfl) (g : d < n := by decide) : PX P n ops Q (fun _ W => kD μ B W) (fuel + 1) listed E W := tL i c hk (.inl rfl) rfl g (fun _ _ h => h) a (fun _ W _ h => j W h) h
theorem XQ (i : Nat) (c : ops[i]? = some ⟨some d, ins, ty, pos, af, none⟩) (a : S (listed.setIfInBounds i true) W) (j : ∃ p, A p ∧ ∀ W, fC P E ⟨some d, ins, ty, pos, af, none⟩ W p W) (h : ∀ p, A p → PX P n ops Q S fuel (listed.setIfInBounds i true) (gb E d p) W) (hk : pO ops listed i = true := by kernel_rfl) (hm : ∀ l w, S (l.setIfInBounds i true) w → S l w := by exact fun _ _ h => h) (g : d < n := by decide) : PX P n ops Q S (fuel + 1) listed E W := AS i c hk (.inl rfl) rfl g hm a j h
theorem XE (i : Nat) (a : ops[i]? = some ⟨some d, ins, ty, pos, af, none⟩) (h : gK P E ⟨some d, ins, ty, pos, af, none⟩ W fun v W' => S (listed.setIfInBounds i true) W' ∧ PX P n ops Q S fuel (listed.setIfInBounds i true) (gb E d v) W') (g : Region.ready .any ops listed = [i] := by kernel_rfl) (c : d < n := by decide) : PX P n ops Q S (fuel + 1) listed E W := zP i a g (.inl rfl) rfl c h
theorem XO (i : Nat) (a : ops[i]? = some ⟨none, ins, ty, pos, af, none⟩) (h : gK P E ⟨none, ins, ty, pos, af, none⟩ W fun _ W' => S (listed.setIfInBounds i true) W' ∧ PX P n ops Q S fuel (listed.setIfInBounds i true) E W') (c : Region.ready .any ops listed = [i] := by kernel_rfl) : PX P n ops Q S (fuel + 1) listed E W := AA i a c (.inl rfl) rfl h
theorem Xg (i : Nat) (g : ops[i]? = some ⟨some d, ins, ty, pos, af, some (j, want)⟩) (k : (ops[j]?).bind (·.dst) = some t) (a : E t = .bool want) (c : S (listed.setIfInBounds i true) W) (q : ∀ {W}, fC P E ⟨some d, ins, ty, pos, af, some (j, want)⟩ W v W) (h : PX P n ops Q S fuel (listed.setIfInBounds i true) (gb E d v) W) (hk : pO ops listed i = true := by kernel_rfl) (hm : ∀ l w, S (l.setIfInBounds i true) w → S l w := by exact fun _ _ h => h) (p : t < n := by decide) (o : d < n := by decide) : PX P n ops Q S (fuel + 1) listed E W := tL i g hk (.inr ⟨j, want, t, rfl, k, p, a⟩) rfl o hm c (fun _ _ _ _ => q) h
theorem yn (i : Nat) (g : ops[i]? = some ⟨some d, ins, ty, pos, af, some (j, want)⟩) (k : (ops[j]?).bind (·.dst) = some t) (a : E t = .bool want) (c : kD μ B W) (q : ∀ W, kD μ B W → fC P E ⟨some d, ins, ty, pos, af, some (j, want)⟩ W v W) (h : PX P n ops Q (fun _ W => kD μ B W) fuel (listed.setIfInBounds i true) (gb E d v) W) (hk : pO ops listed i = true := by kernel_rfl) (p : t < n := by decide) (o : d < n := by decide) : PX P n ops Q (fun _ W => kD μ B W) (fuel + 1) listed E W := tL i g hk (.inr ⟨j, want, t, rfl, k, p, a⟩) rfl o (fun _ _ h => h) c (fun _ W _ h => q W h) h
theorem ym (i : Nat) (c : ops[i]? = some ⟨some d, ins, ty, pos, af, some (j, want)⟩) (g : (ops[j]?).bind (·.dst) = some t) (a : E t = .bool want) (h : gK P E ⟨some d, ins, ty, pos, af, some (j, want)⟩ W fun v W' => S (listed.setIfInBounds i true) W' ∧ PX P n ops Q S fuel (listed.setIfInBounds i true) (gb E d v) W') (o : Region.ready .any ops listed = [i] := by kernel_rfl) (p : t < n := by decide) (k : d < n := by decide) : PX P n ops Q S (fuel + 1) listed E W := zP i c o (.inr ⟨j, want, t, rfl, g, p, a⟩) rfl k h
theorem Xn (i : Nat) (g : ops[i]? = some ⟨some d, ins, ty, pos, af, some (j, want)⟩) (k : (ops[j]?).bind (·.dst) = some t) (a : E t = .bool (!want)) (c : S (listed.setIfInBounds i true) W) (h : PX P n ops Q S fuel (listed.setIfInBounds i true) (gb E d undef) W) (hk : pO ops listed i = true := by kernel_rfl) (hm : ∀ l w, S (l.setIfInBounds i true) w → S l w := by exact fun _ _ h => h) (p : t < n := by decide) (o : d < n := by decide) : PX P n ops Q S (fuel + 1) listed E W := Ap i g hk rfl k p a rfl o hm c h
end
section
variable {α β γ : Type}
inductive jy (Q : α → β → Prop) : List α → List β → Prop
 | nil : jy Q [] []
 | cons {a : α} {b : β} {l : List α} {m : List β} : Q a b → jy Q l m → jy Q (a :: l) (b :: m)
namespace jy
variable {Q Q' : α → β → Prop}
theorem length {l : List α} {m : List β} (h : jy Q l m) : l.length = m.length := by
 induction h with
 | nil => rfl
 | cons _ _ ih => simp [ih]
theorem imp {l : List α} {m : List β} (h : jy Q l m) (c : ∀ a b, Q a b → Q' a b) : jy Q' l m := by
 induction h with
 | nil => exact .nil
 | cons h1 _ ih => exact .cons (c _ _ h1) ih
theorem get {l : List α} {m : List β} (h : jy Q l m) : ∀ {i : Nat} {b : β}, m[i]? = some b → ∃ a, l[i]? = some a ∧ Q a b := by
 induction h with
 | nil => intro i b c; simp at c
 | cons h1 _ ih =>
  intro i b c
  cases i with
  | zero => simp at c; subst c; exact ⟨_, rfl, h1⟩
  | succ i => simpa using ih (by simpa using c)
theorem append {l a : List α} {m c : List β} (h : jy Q l m) (d : jy Q a c) : jy Q (l ++ a) (m ++ c) := by
 induction h with
 | nil => exact d
 | cons h1 _ ih => exact .cons h1 ih
theorem set {l : List α} {m : List β} (h : jy Q l m) {a : α} {b : β} (d : Q a b) : ∀ i : Nat, jy Q (l.set i a) (m.set i b) := by
 induction h with
 | nil => intro i; exact .nil
 | cons h1 c ih =>
  intro i
  cases i with
  | zero => exact .cons d c
  | succ i => exact .cons h1 (ih i)
theorem take {l : List α} {m : List β} (h : jy Q l m) : ∀ i : Nat, jy Q (l.take i) (m.take i) := by
 induction h with
 | nil => intro i; simp; exact .nil
 | cons h1 _ ih =>
  intro i
  cases i with
  | zero => exact .nil
  | succ i => exact .cons h1 (ih i)
theorem drop {l : List α} {m : List β} (h : jy Q l m) : ∀ i : Nat, jy Q (l.drop i) (m.drop i) := by
 induction h with
 | nil => intro i; simp; exact .nil
 | cons h1 a ih =>
  intro i
  cases i with
  | zero => exact .cons h1 a
  | succ i => exact ih i
end jy
end
structure Deep {β : Type} (R : jg β) (k : Nat) : Prop where
 mono : tz R
 len : ∀ {μ ys x}, R μ ys x → ys.length = k
 one : ∀ {μ ys x}, R μ ys x → ∀ u ∈ ys, u.oneCell' = true
abbrev oJ (k : Nat) := {ys : List Value // ys.length = k ∧ ∀ u ∈ ys, u.oneCell' = true}
def mY {k : Nat} (c : oJ k) : List Value := c.1
theorem vI {k : Nat} (x : oJ k) : (mY x).length = k := x.2.1
theorem Sl.qI {α : Type} {R : jg α} {k : Nat} {μ : eV} {v : Value} {l : List α} (h : Sl R k μ v l) : v.oneCell' = true := by
 obtain ⟨A, c, rfl, _⟩ := h; rfl
section
variable {β : Type} {Rl : jg β} {k : Nat} {μ μ' : eV} {v : Value} {l : List β}
def Deep.cell (a : Deep Rl k) {ys : List Value} {x : β} (h : Rl μ ys x) : oJ k := ⟨ys, a.len h, a.one h⟩
theorem Sl.xl {cl : List (oJ k)} (h : Sl (Pl mY) k μ v cl) (w : eT μ μ') (a : jy (fun c x => Rl μ' c.1 x) cl l) : Sl Rl k μ' v l := by
 obtain ⟨A, c, rfl, h1, o, p⟩ := h
 have d := a.length
 refine ⟨A, c, by rw [d], by omega, o, fun z => ?_⟩
 obtain ⟨b, off, cs, T, fr, rfl, s, q⟩ := p (by omega)
 refine ⟨b, off, cs, T, fr, rfl, w _ _ s, fun i x y => ?_⟩
 obtain ⟨c, t, u⟩ := a.get y
 obtain ⟨ys, g, j, n⟩ := q i c t
 cases j
 exact ⟨mY c, g, u, n⟩
inductive qw (Rl : jg β) (k : Nat) (μ : eV) : List Value → List β → Prop
 | nil : qw Rl k μ [] []
 | cons {ys zs : List Value} {x : β} {l : List β} : Rl μ ys x → qw Rl k μ zs l → qw Rl k μ (ys ++ zs) (x :: l)
theorem qw.cells (d : Deep Rl k) {ys : List Value} (h : qw Rl k μ ys l) : ∃ cl : List (oJ k), (cl.map mY).flatten = ys ∧ jy (fun c x => Rl μ c.1 x) cl l := by
 induction h with
 | nil => exact ⟨[], rfl, .nil⟩
 | cons h1 _ ih =>
  obtain ⟨cl, e, a⟩ := ih
  exact ⟨d.cell h1 :: cl, by rw [aR, bE, e]; rfl, .cons h1 a⟩
theorem Sl.imp {R R' : jg β} (h : Sl R k μ v l) (q : ∀ ys x, R μ ys x → R' μ ys x) : Sl R' k μ v l := by
 obtain ⟨A, c, rfl, h1, a, d⟩ := h
 refine ⟨A, c, rfl, h1, a, fun s => ?_⟩
 obtain ⟨b, off, cs, T, fr, rfl, p, g⟩ := d s
 exact ⟨b, off, cs, T, fr, rfl, p, fun i x t => let ⟨ys, j, n, o⟩ := g i x t; ⟨ys, j, q _ _ n, o⟩⟩
def iY (e : TypeId) (Rl : jg β) (k : Nat) (μ : eV) (v : Value) (l : List β) (B : List (Nat × Obj)) : Prop := ∃ cl : List (oJ k), fp e mY k v cl B ∧ jy (fun c x => Rl μ c.1 x) cl l
variable {e : TypeId} {B : List (Nat × Obj)}
theorem iY.mono (c : Deep Rl k) (h : iY e Rl k μ v l B) (d : eT μ μ') : iY e Rl k μ' v l B := by
 obtain ⟨cl, h1, a⟩ := h
 exact ⟨cl, h1, a.imp (fun _ _ h => c.mono _ _ _ _ d h)⟩
theorem iY.nil (e : TypeId) (Rl : jg β) (k : Nat) (μ : eV) : iY e Rl k μ (.slice none 0 0) [] [] := ⟨[], fp.nil _ _ _, .nil⟩
theorem iY.lit (d : Deep Rl k) {b m : Nat} {ys : List Value} (h : qw Rl k μ ys l) (hm : l.length = m) (g : m ≤ maxLen) (i : ys.length = m * k) : iY e Rl k μ (.slice (some ⟨b, 0, none⟩) m m) l [(b, .cells ys.toArray e (0, 0))] := by
 obtain ⟨cl, c, a⟩ := h.cells d
 exact ⟨cl, fp.lit (by rw [a.length]; exact hm) g c.symm (by simpa using i), a⟩
theorem iY.form (h : iY e Rl k μ v l B) : ∃ A c, v = .slice A l.length c := by
 obtain ⟨cl, h1, a⟩ := h
 rw [← a.length]; exact h1.form
theorem iY.len (h : iY e Rl k μ v l B) : l.length ≤ 9223372036854775807 := by
 obtain ⟨cl, h1, a⟩ := h
 rw [← a.length]; exact h1.len
theorem iY.nd (h : iY e Rl k μ v l B) : (B.map (·.1)).Nodup := let ⟨_, h1, _⟩ := h; h1.nd
theorem iY.isNil {n c : Nat} (h : iY e Rl k μ (.slice none n c) l B) : l = [] := by
 obtain ⟨cl, h1, a⟩ := h
 have := a.length
 rw [h1.isNil] at this
 exact cm this.symm
theorem iY.sl (h : iY e Rl k μ v l B) (c : Deep Rl k) (d : eT μ μ') (hm : ∀ b o, (b, o) ∈ B → μ' b = some o) : Sl Rl k μ' v l := by
 obtain ⟨cl, h1, a⟩ := h
 exact Sl.xl (h1.sl vI hm) (eT.refl _) (a.imp (fun _ _ h => c.mono _ _ _ _ d h))
end
section
variable {β : Type} {Rl : jg β} {k : Nat} {μ : eV} {v : Value} {l : List β} {e : TypeId} {B : List (Nat × Obj)}
variable {dd : Bool} {F : Nat → Prop} {w W : World} {L : List (Nat × Obj)}
theorem iY.yo (h : iY e Rl k μ v l B) (a : ST dd fY w W μ L) (c : ∀ p, p ∈ B → p ∈ L) : Fr w.heap.size v := let ⟨_, h1, _⟩ := h; h1.yo a c
theorem ST.xY {Y : List (Nat × Obj)} (g : Deep Rl k) (a : ST dd F w W μ (B ++ Y)) (h : iY e Rl k μ v l B) : ∃ μ', ST dd F w W μ' Y ∧ eT μ μ' ∧ Lo F w μ μ' ∧ Sl Rl k μ' v l := by
 obtain ⟨cl, h1, d⟩ := h
 obtain ⟨μ', c, a2, a4, a3⟩ := ST.sG a h1 vI
 exact ⟨μ', c, a2, a4, Sl.xl a3 (eT.refl _) (d.imp (fun _ _ h => g.mono _ _ _ _ a2 h))⟩
variable {P : Program} {E : Nat → Value} {d : Option Nat} {ty : TypeId} {pos : String} {af : Array Edge} {g : Option (Nat × Bool)}
theorem pL {t e' : TypeId} {x a : Operand} {D : IntKind} {i : Int} {x0 : β} {A : List Value → Prop} (s : ∀ {ys}, Rl μ ys x0 → A ys) (y : P.underlying t = some (.slice e')) (he : ∀ w, (sizeOf e').run P w = .ok k w) (z : eL E x = v) (o : eL E a = .int D i) (u : Sl Rl k μ v l) (c : 0 ≤ i) (q : l[i.toNat]? = some x0) :
  ∃ p, (∃ ys, A ys ∧ At μ p ys) ∧ ∀ W, fC P E ⟨d, .indexAddr t x a, ty, pos, af, g⟩ W p W := by
 obtain ⟨p, ys, _, h, j, n⟩ := sv (d := d) (ty := ty) (pos := pos) (af := af) (g := g) y he z o u c q
 exact ⟨p, ⟨ys, s h, j⟩, n⟩
end
end Go.Proofs.Ytcafmokjkjcomaa
namespace Go.Proofs.Ytcafmokjkjcomaa
open Go.RowKit
def gm (dd : Bool) (P : Program) (f : FuncId) (args : List Value) (w : World) (μ0 : eV) (L0 : List (Nat × Obj)) (K : Value → List (Nat × Obj) → eV → Prop) : Prop :=
 Calls P f args.toArray w fun e a => ∃ v L1 μ1, e = .returned v ∧ iF dd L0 L1 w a ∧ eT μ0 μ1 ∧ Lo (keys L0) w μ0 μ1 ∧ eT μ1 (iR a L1) ∧ K v L1 μ1
theorem gm.gz {dd : Bool} {P : Program} {f : FuncId} {args : List Value} {w : World} {μ0 : eV} {L0 : List (Nat × Obj)} {K : Value → List (Nat × Obj) → eV → Prop} (h : gm true P f args w μ0 L0 K) : gm dd P f args w μ0 L0 K :=
 bi h fun _ _ ⟨v, L1, μ1, h1, a, c⟩ => ⟨v, L1, μ1, h1, a.gz, c⟩
section
variable {dd : Bool} {F : Nat → Prop} {w W W' : World} {μ μ1 : eV} {L L0 L1 L2 : List (Nat × Obj)}
theorem ST.ye (h : ST dd F w W μ (L0 ++ L)) (g : iF dd L0 L1 W W') (i : Lo (keys L0) W μ μ1) (d : eT μ1 (iR W' L1)) : ST dd F w W' μ1 (L1 ++ L) := by
 have h1 := h.back g
 refine ⟨h1.os, h1.tape, h1.output, h1.drawn, h1.size, h1.jl, fun b o hm => ?_, fun b o a => ?_, h1.nd⟩
 ·have := d b o hm
  unfold iR at this
  split at this
  ·cases this
  ·exact this
 ·obtain ⟨j, n, k⟩ := h1.box b o a
  refine ⟨j, ?_, k⟩
  rcases aV.1 a with a | a
  ·cases hm : μ1 b with
   | none => rfl
   | some x =>
    have := d b x hm
    unfold iR at this
    rw [aD ⟨o, a⟩] at this
    cases this
  ·have c := h.box b o (bN _ a)
   rw [i b (gj c.1) (qF h.nd a)]
   exact c.2.1
variable {P : Program} {E : Nat → Value} {d : Option Nat} {ty : TypeId} {pos : String} {af : Array Edge} {g : Option (Nat × Bool)}
theorem uC {K : Value → World → Prop} {K' : Value → List (Nat × Obj) → eV → Prop} {f : FuncId} {fv : Operand} {ax : Array Operand} {ats : Array TypeId} {caps : Array Value} {args : List Value} (L0 L2 : List (Nat × Obj)) (a : ST dd F w W μ L) (c : L.Perm (L0 ++ L2)) (z : eL E fv = .func (.func f) #[] caps) (he : ∀ args w, (callFunc f args).run P w = .ok (.enter f args) w) (u : ax.map (eL E) ++ (#[] : Array Value) = args.toArray) (y : pD L0 W → (L0.map (·.1)).Nodup → eT μ (iR W L0) → (∀ b o, (b, o) ∈ L2 → iR W L0 b = some o) → gm dd P f (args ++ caps.toList) W μ L0 K') (h : ∀ W' v μ' L1, ST dd F w W' μ' (L1 ++ L2) → eT μ μ' → Lo F w μ μ' → K' v L1 μ' → K v W') : gK P E ⟨d, .call ⟨.value fv, ax, ats⟩, ty, pos, af, g⟩ W K := by
 have i : ax.map (eL E) = args.toArray := by simpa using u
 refine qE (args := (args ++ caps.toList).toArray) z he (by rw [i]; simp) (bi (y (a.held c) (a.xQ c) (a.xJ c) (a.sE c)) (fun _ W' ⟨v, L1, μ1, h1, k, n, j, p, s⟩ => ⟨v, h1, h W' v μ1 L1 ((a.perm c).ye k j p) n (fun b x t => j b (bG x a.size) (fun ⟨o, A⟩ => by
  rcases ((a.perm c).box b o (aW _ A)).2.2 with q | q
  ·omega
  ·exact t q)) s⟩))
end
section
variable {P : Program} {E : Nat → Value} {W : World} {d : Option Nat} {ty : TypeId} {pos : String} {af : Array Edge} {g : Option (Nat × Bool)}
 {dd : Bool} {F : Nat → Prop} {w : World} {μ : eV} {L : List (Nat × Obj)}
theorem rf {t e : TypeId} {C : Array Value} {b n c : Nat} (g : P.underlying t = some (.slice e)) (he : P.underlying e = some (.int .u8)) (d : W.heap[b]? = some (.cells C e (0, 0))) :
  (convert t t (.slice (some ⟨b, 0, none⟩) n c)).run P W = .ok (.slice (some ⟨b, 0, none⟩) n c) (W.freeze ⟨b, C.size, none⟩ 1) := by
 have a : W.shape? b = some (e, C.size) := by
  unfold World.shape?
  rw [d]
 simp [convert, aA g, aA he, markStringish, a]
theorem nY {K : Value → World → Prop} {t e : TypeId} {x : Operand} {b m : Nat} {cs : Array Value} {l : List Int} (a : ST dd F w W μ ((b, .cells cs e (0, 0)) :: L)) (v : P.underlying t = some (.slice e)) (he : P.underlying e = some (.int .u8)) (p : eL E x = .slice (some ⟨b, 0, none⟩) m m) (s : cs.toList = (l.map (eQ .u8)).flatten) (hm : l.length = m) (q : m ≤ maxLen) (h : ∀ W' μ', ST dd F w W' μ' L → eT μ μ' → Lo F w μ μ' → Sl (Pl (eQ .u8)) 1 μ' (.slice (some ⟨b, 0, none⟩) m m) l → K (.slice (some ⟨b, 0, none⟩) m m) W') : gK P E ⟨d, .convert t t x, ty, pos, af, g⟩ W K := by
 subst hm
 have n := (a.box b _ (by simp : (b, Obj.cells cs e (0, 0)) ∈ (b, Obj.cells cs e (0, 0)) :: L)).1
 have u := gj n
 have c : (W.freeze ⟨b, cs.size, none⟩ 1).heap[b]? = some (.cells cs e (cs.size, cs.size + 1)) := by
  unfold World.freeze
  rw [aF (by decide)]
  simp only [bZ, aT]
  rw [n]
  rfl
 have h1 : ST dd F w (W.freeze ⟨b, cs.size, none⟩ 1) μ ([] ++ (b, .cells cs e (cs.size, cs.size + 1)) :: L) := by
  refine ST.put (A := []) (o := .cells cs e (0, 0)) a ⟨?_, ?_, ?_, ?_, ?_⟩ (fun k hk => ?_) c
  all_goals (unfold World.freeze; rw [aF (by decide)])
  ·exact aM _
  ·simp
  ·simp only [bZ]
   rw [aF (fun e => hk e.symm)]
 refine .inl ⟨_, _, ?_, h _ _ (ST.qC (A := []) h1) (ST.qy (A := []) h1) (ST.uo (A := []) h1) ?_⟩
 ·show (do pure (.value (← convert t t (eL E x))) : Sem Next).run P W = _
  rw [p]
  simp only [aX, rf v he n, aJ, bL]
 ·refine ⟨_, _, rfl, aM _, q, fun _ => ⟨b, 0, cs, e, _, rfl, aD rfl, fun i x p => ⟨_, rfl, rfl, fun j y z => ?_⟩⟩⟩
  have := my (enc := eQ .u8) (k := 1) (fun _ => rfl) l i x p j y z
  rw [← s] at this
  simpa using this
def pt {α : Type} (a : Nat) (z : α) (n : Int) : Option (List α) := if 0 ≤ n ∧ (a : Int) * n ≤ 140737488355328 ∧ n ≤ (maxLen : Int) then some (List.replicate n.toNat z) else none
theorem sC {α : Type} {enc : α → List Value} {k : Nat} (hk : ∀ x, (enc x).length = k) (a : 0 < k) (z : α) (n : Nat) : (madeCells (enc z).toArray (n * k)).toList = ((List.replicate n z).map enc).flatten := by
 apply List.ext_getElem
 ·rw [ko hk, bz, size_madeCells]; simp
 ·intro i h1 h
  rw [bz, size_madeCells] at h1
  have j : i / k < n := by rw [dz a]; exact h1
  have d : i % k < (enc z).length := by rw [hk]; exact Nat.mod_lt _ a
  have c := my hk (List.replicate n z) (i / k) z (by rw [List.getElem?_replicate, aD j]) (i % k) _ (br d)
  rw [show i / k * k + i % k = i by rw [Nat.mul_comm]; exact Nat.div_add_mod i k] at c
  rw [br h] at c
  have g := Option.some.inj c
  rw [g]
  simp only [madeCells, Array.getElem_toList, Array.getElem_map, Array.getElem_range, bM, hk]
  rw [getElem!_pos _ _ (by simpa using d)]
  simp
theorem uP {K : Value → World → Prop} {α : Type} {e t : TypeId} {enc : α → List Value} {k a : Nat} {c : Value} {n : Int} {o : IntKind} {z : α} {r : List α} {x y : Operand} {i : TypeInfo} (p : ST dd F w W μ L) (hk : ∀ x, (enc x).length = k) (u : 0 < k) (Q : P.underlying t = some (.slice e)) (M : P.info? e = some i) (U : i.zero = some c) (v : i.size = k) (s : i.bytes = a) (J : c.cells = (enc z).toArray) (R : eL E x = .int o n) (T : eL E y = .int o n) (j : pt a z n = some r) (h : ∀ W' A R', ST dd F w W' μ (R' ++ L) → fp e enc k A r R' → K A W') : gK P E ⟨d, .makeSlice t x y, ty, pos, af, g⟩ W K := by
 unfold pt at j
 split at j
 case isFalse => cases j
 rename_i q
 cases j
 obtain ⟨D, h1, G⟩ := q
 subst v; subst s
 have I : n.toNat ≤ maxLen := by omega
 have O := run_make (P := P) W t e i c Q M U o o n n D (Int.le_refl _) (by omega) (by simp only [maxLen] at G; omega)
 refine .inl ⟨.slice (some ⟨W.heap.size, 0, none⟩) n.toNat n.toNat, W.alloc (.cells (madeCells c.cells (n.toNat * i.size)) e), ?_, h _ _ [(W.heap.size, .cells (madeCells c.cells (n.toNat * i.size)) e)] (p.alloc _) ?_⟩
 ·show (do pure (.value (← Instr.makeSlice t (eL E x) (eL E y))) : Sem Next).run P W = _
  rw [R, T]
  simp only [aX, O, aJ, bL]
 ·exact fp.lit (by rw [List.length_replicate]) I (by rw [J]; exact sC hk u z _) (by rw [size_madeCells])
end
section
variable {P : Program} {E : Nat → Value} {W : World} {d : Option Nat} {ty : TypeId} {pos : String} {af : Array Edge} {g : Option (Nat × Bool)}
theorem xt {op : BinOp} {tx tv : TypeId} {x y : Operand} {k : IntKind} {a b : Int} {v : Value} (i : eL E x = .int k a) (j : eL E y = .int k b) (h : (match op with | .and => some (BitVec.ofInt k.bits a &&& BitVec.ofInt k.bits b) | .or => some (BitVec.ofInt k.bits a ||| BitVec.ofInt k.bits b) | .xor => some (BitVec.ofInt k.bits a ^^^ BitVec.ofInt k.bits b) | _ => none).map (fun (c : BitVec k.bits) => Value.int k (k.wrap c.toNat)) = some v) :
  fC P E ⟨d, .binOp op tx x y tv, ty, pos, af, g⟩ W v W := by
 show (do let r ← (do eqGuard op tx x y (eL E x) (eL E y); binOp op tx (eL E x) (eL E y)); pure (.value r) : Sem Next).run P W = _
 rw [i, j]
 cases op <;> simp at h <;> subst h <;> simp [eqGuard, binOp, Op.intBits]
theorem Ab {tx tv : TypeId} {x y : Operand} {k k' : IntKind} {a b : Int} (c : eL E x = .int k a) (h : eL E y = .int k' b) (i : 0 ≤ b) :
  fC P E ⟨d, .binOp .shl tx x y tv, ty, pos, af, g⟩ W (.int k (k.wrap (a * 2 ^ min b.toNat k.bits))) W := by
 show (do let r ← (do eqGuard .shl tx x y (eL E x) (eL E y); binOp .shl tx (eL E x) (eL E y)); pure (.value r) : Sem Next).run P W = _
 rw [c, h]
 simp [eqGuard, binOp, Op.shift, show ¬ b < 0 by omega]
end
theorem ji.qI {κ γ : Type} {kenc : κ → Value} {Q : Value → γ → List (Nat × Obj) → Prop} {μ : eV} {v : Value} {l : List (κ × γ)} (h : ji kenc Q μ v l) : v.oneCell' = true := by
 obtain ⟨a, R, h, _⟩ := h
 obtain ⟨m, rfl⟩ := h.form
 rfl
theorem lq.qI {κ β : Type} {kenc : κ → Value} {vf : β → Value} {μ : eV} {v : Value} {l : List (κ × β)} (h : lq kenc vf μ v l) : v.oneCell' = true := by
 obtain ⟨m, rfl⟩ := h.form
 rfl
section
variable {β : Type} {Rl : jg β} {k : Nat} {μ μ' : eV} {v : Value} {x : Option β}
def kp (Rl : jg β) (μ : eV) (v : Value) (x : Option β) : Prop := (v = .pointer none ∧ x = none) ∨ ∃ y ys, x = some y ∧ At μ v ys ∧ Rl μ ys y
theorem kp.nil : kp Rl μ (.pointer none) none := .inl ⟨rfl, rfl⟩
theorem kp.some {y : β} {ys : List Value} (h : At μ v ys) (a : Rl μ ys y) : kp Rl μ v (some y) := .inr ⟨y, ys, rfl, h, a⟩
theorem kp.mono (g : Deep Rl k) (h : kp Rl μ v x) (a : eT μ μ') : kp Rl μ' v x := by
 rcases h with h | ⟨y, ys, h1, c, d⟩
 ·exact .inl h
 ·exact .inr ⟨y, ys, h1, c.mono a, g.mono _ _ _ _ a d⟩
theorem kp.qI (h : kp Rl μ v x) : v.oneCell' = true := by
 rcases h with ⟨rfl, _⟩ | ⟨y, ys, _, ⟨b, off, cs, T, fr, rfl, _⟩, _⟩ <;> rfl
variable {P : Program} {E : Nat → Value} {W : World} {d : Option Nat} {ty : TypeId} {pos : String} {af : Array Edge} {g : Option (Nat × Bool)}
theorem pG {tx tv e : TypeId} {a b : Operand} (c : P.underlying tx = some (.pointer e)) (h : kp Rl μ v x) (i : eL E a = v) (j : eL E b = .pointer none) :
  fC P E ⟨d, .binOp .eql tx a b tv, ty, pos, af, g⟩ W (.bool x.isNone) W := by
 rcases h with ⟨rfl, rfl⟩ | ⟨y, ys, rfl, ⟨k, off, cs, T, fr, rfl, _⟩, _⟩
 ·exact jB (a := none) c i j
 ·exact jB (a := Option.some _) c i j
theorem pN {a : Operand} {y : β} {A : List Value → Prop} (k : ∀ {ys}, Rl μ ys y → A ys) (h : kp Rl μ v x) (i : x = Option.some y) (n : eL E a = v) :
  ∃ p, (∃ ys, A ys ∧ At μ p ys) ∧ ∀ W, fC P E ⟨d, .nilCheck a, ty, pos, af, g⟩ W p W := by
 rcases h with ⟨_, rfl⟩ | ⟨z, ys, rfl, c, j⟩
 ·cases i
 ·cases i
  refine ⟨v, ⟨ys, k j, c⟩, fun W => ?_⟩
  obtain ⟨o, off, cs, T, fr, rfl, _⟩ := c
  exact kK n
end
section
variable {dd : Bool}
variable {β : Type} {Rl : jg β} {k : Nat} {μ : eV} {v : Value} {l : List β} {e : TypeId} {B : List (Nat × Obj)}
variable {F : Nat → Prop} {w W : World} {L : List (Nat × Obj)}
variable {P : Program} {E : Nat → Value} {d : Option Nat} {ty : TypeId} {pos : String} {af : Array Edge} {g : Option (Nat × Bool)}
theorem us {α : Type} {enc : α → List Value} (hk : ∀ x, (enc x).length = k) (c : 0 < k) (d : ∀ x y, enc x = enc y → x = y) : ∀ {l m : List α}, (l.map enc).flatten = (m.map enc).flatten → l = m
 | [], [], _ => rfl
 | [], b :: m, h => by
  have := aG List.length h
  simp only [List.map_nil, List.flatten_nil, bo, aR, bE, aH, hk] at this
  omega
 | a :: l, [], h => by
  have := aG List.length h
  simp only [List.map_nil, List.flatten_nil, bo, aR, bE, aH, hk] at this
  omega
 | a :: l, b :: m, h => by
  simp only [aR, bE] at h
  obtain ⟨h1, g⟩ := List.append_inj h (by rw [hk, hk])
  rw [d _ _ h1, us hk c d g]
theorem AX (x y : oJ k) (h : mY x = mY y) : x = y := Subtype.ext h
theorem fp.pre {v1 : Value} {cl a : List (oJ k)} (g : 0 < k) (h : fp e mY k v cl B) (h1 : fp e mY k v1 a B) (d : a.length ≤ cl.length) : a = cl.take a.length := by
 rcases h with ⟨rfl, rfl, rfl⟩ | ⟨t, cap, c, rfl, rfl, u, w, x, q⟩
 ·simp at d; simp [d]
 ·rcases h1 with ⟨_, _, h⟩ | ⟨g1, i, j, rfl, n, s, a2, a3, a4⟩
  ·cases h
  ·cases n
   refine us vI g AX ?_
   rw [← a4]
   have hle : a.length * k ≤ cl.length * k := bk _ d
   have : c.toList.take (a.length * k) = (c.toList.take (cl.length * k)).take (a.length * k) := by rw [dw, bO hle]
   rw [this, q]
   have o : (cl.map mY).flatten = ((cl.take a.length).map mY).flatten ++ ((cl.drop a.length).map mY).flatten := by rw [← List.flatten_append, ← bf, List.take_append_drop]
   have p : ((cl.take a.length).map mY).flatten.length = a.length * k := by rw [ko vI, bt, bO d]
   rw [o, ← p, List.take_left]
theorem jy.replicate {α β : Type} {Q : α → β → Prop} {a : α} {b : β} (h : Q a b) : ∀ n, jy Q (List.replicate n a) (List.replicate n b)
 | 0 => .nil
 | n + 1 => .cons h (jy.replicate h n)
end
theorem bS {α β : Type} {m : Option α} {f : α → Option β} {r : β} {G : Prop} (h : m.bind f = some r) (k : ∀ x, m = some x → f x = some r → G) : G :=
 let ⟨x, a, b⟩ := bind_some h
 k x a b
theorem sj {α : Type} {a b : α} (h : some a = some b) : a = b := Option.some.inj h
theorem bC {α : Type} {b : Bool} {x y r : α} {G : Prop} (h : (if b = true then x else y) = r) (a : b = true → x = r → G) (k2 : b = false → y = r → G) : G := by
 rcases wu b with e | e
 ·exact a e (zg e h)
 ·exact k2 e (zk e h)
theorem cB {a b : Bool} (h : a = b) : Value.bool a = Value.bool b := aG Value.bool h
theorem nb {a b : Nat} (h : Nat.ble a b = true := by exact rfl) : a ≤ b := Nat.le_of_ble_eq_true h
def AJ : Nat → Nat → List Bool
 | 0, _ => []
 | n + 1, m => (m % 2 == 1) :: AJ n (m / 2)
def bm (n m : Nat) : Array Bool := (AJ n m).toArray
section
variable {P : Program} {n : Nat} {Q : gn} {E : Nat → Value} {W : World}
theorem CI {α : Type} {co : Operand} {b : Bool} {x y : Code} {A B r : α} (hm : (if b = true then A else B) = r) (a : eL E co = .bool b) (d : b = true → A = r → CW P n x Q E W) (c : b = false → B = r → CW P n y Q E W) : CW P n (.cond co x y) Q E W :=
 vH a (fun e => d e (zg e hm)) (fun e => c e (zk e hm))
theorem CJ {c ρ : Type} {m : Option c} {k : c → Option ρ} {r : ρ} {x : Code} {K : (Nat → Value) → World → Prop} (hm : m.bind k = some r) (I : c → (Nat → Value) → World → Prop) (h1 : ∀ s, m = some s → CW P n x (gS (I s) Q) E W) (d : ∀ s E W, I s E W → k s = some r → K E W) : CW P n x (gS K Q) E W :=
 let ⟨s, a, b⟩ := bind_some hm
 xb (I s) (h1 s a) (fun E W h => d s E W h b)
theorem sV {d ρ c : Type} {m : Option (c ⊕ d)} {k : c ⊕ d → Option ρ} {r : ρ} {x : Code} {K : (Nat → Value) → World → Prop} (hm : m.bind k = some r) (I : d → (Nat → Value) → World → Prop) (h1 : ∀ s, m = some s → k s = some r → CW P n x (gS (fun E W => ∃ t, s = .inr t ∧ I t E W) Q) E W) (g : ∀ s E W, I s E W → k (.inr s) = some r → K E W) : CW P n x (gS K Q) E W :=
 let ⟨s, a, b⟩ := bind_some hm
 xb (fun E W => ∃ t, s = .inr t ∧ I t E W) (h1 s a b) (fun E W ⟨t, e, h⟩ => g t E W h (by subst e; exact b))
theorem LJ {c ρ : Type} {m : Option c} {k : c → Option ρ} {r : ρ} {ops : Array Oper} {rest : List Oper} (hm : m.bind k = some r) (I : c → (Nat → Value) → World → Prop) (j : Nat) (d : ∀ s E W, I s E W → k s = some r → LW P n ops Q (rest.drop j) E W) (h1 : ∀ s, m = some s → (∀ E W, I s E W → LW P n ops Q (rest.drop j) E W) → LW P n ops Q rest E W) : LW P n ops Q rest E W :=
 let ⟨s, a, b⟩ := bind_some hm
 h1 s a (fun E W h => d s E W h b)
theorem PJ {c ρ : Type} {m : Option c} {k : c → Option ρ} {r : ρ} {ops : Array Oper} {S : Array Bool → World → Prop} {fuel : Nat} {listed : Array Bool} (hm : m.bind k = some r) (I : c → (Nat → Value) → World → Prop) (g : Array Bool) (d : Nat) (i : ∀ s E W, I s E W → k s = some r → PX P n ops Q S d g E W) (h1 : ∀ s, m = some s → (∀ E W, I s E W → PX P n ops Q S d g E W) → PX P n ops Q S fuel listed E W) : PX P n ops Q S fuel listed E W :=
 let ⟨s, a, b⟩ := bind_some hm
 h1 s a (fun E W h => i s E W h b)
theorem cF (n : Nat) {f : FuncId} {fn : Func} {c : Code} {args : List Value} {w : World} {R : Ending → World → Prop} (a : P.funcs[f]? = some fn) (d : fn.body = some c) (h : CW P n c (lo P fn R) (lp args) w) (i : fn.ntmps = n := by exact rfl) (g : args.length ≤ n := by exact nb) : Calls P f args.toArray w R := ml a d i g h
end
section
variable {dd : Bool} {P : Program} {fn : Func} {E : Nat → Value} {W w : World} {μ : eV} {L : List (Nat × Obj)}
theorem rP {t : Tmp} {v : Value} (a : ST dd fY w W μ L) (c : fn.results = #[.tmp t] := by exact rfl) (d : E t = v := by exact rfl) : lo P fn (fun e W' => e = .returned v ∧ Ex dd w W') .ret E W := fL c d ⟨rfl, a.ex⟩
end
theorem aL {E : Nat → Value} {ax : Array Operand} {l : List Value} (h : ax.toList.map (eL E) = l) : ax.map (eL E) ++ (#[] : Array Value) = l.toArray := by subst h; apply Array.ext'; simp
section
variable {dd : Bool}
variable {P : Program} {E : Nat → Value} {W : World} {d : Option Nat} {ty : TypeId} {pos : String} {af : Array Edge} {g : Option (Nat × Bool)}
 {F : Nat → Prop} {w : World} {μ : eV} {L : List (Nat × Obj)}
variable {f : FuncId} {fv : Operand} {ax : Array Operand} {ats : Array TypeId} {args : List Value} {v : Value} {K : Value → World → Prop}
theorem Eg (a : ST dd F w W μ L) (he : ∀ args w, (callFunc f args).run P w = .ok (.enter f args) w) (i : fQ dd P f args W v) (h : ∀ W', ST dd F w W' μ L → K v W') (j : eL E fv = .func (.func f) #[] #[] := by exact rfl) (c : ax.toList.map (eL E) = args := by exact rfl) : gK P E ⟨d, .call ⟨.value fv, ax, ats⟩, ty, pos, af, g⟩ W K := yY a j he (aL c) i h
theorem mh {α : Type} {e : TypeId} {enc : α → List Value} {k : Nat} {l : List α} {Y : List (Nat × Obj)} (a : ST dd F w W μ Y) (he : ∀ args w, (callFunc f args).run P w = .ok (.enter f args) w) (i : gu dd P f args W e enc k l) (h : ∀ W' v μ' R, ST dd F w W' μ' (R ++ Y) → eT μ μ' → Lo F w μ μ' → fp e enc k v l R → K v W') (j : eL E fv = .func (.func f) #[] #[] := by exact rfl) (c : ax.toList.map (eL E) = args := by exact rfl) : gK P E ⟨d, .call ⟨.value fv, ax, ats⟩, ty, pos, af, g⟩ W K := vG _ a j he (aL c) i h
theorem yA {K' : Value → List (Nat × Obj) → World → Prop} {L0 L2 : List (Nat × Obj)} (i : ST dd F w W μ L) (j : L.Perm (L0 ++ L2)) (he : ∀ args w, (callFunc f args).run P w = .ok (.enter f args) w) (n : pD L0 W → (L0.map (·.1)).Nodup → eT μ (iR W L0) → (∀ b o, (b, o) ∈ L2 → iR W L0 b = some o) → fX dd P f args W L0 K') (h : ∀ W' v μ' L1, ST dd F w W' μ' (L1 ++ L2) → eT μ μ' → Lo F w μ μ' → (∀ b, W.heap.size ≤ b → ∀ o, iR W' L1 b = some o → μ' b = some o) → K' v L1 W' → K v W') (p : eL E fv = .func (.func f) #[] #[] := by exact rfl) (k : ax.toList.map (eL E) = args := by exact rfl) : gK P E ⟨d, .call ⟨.value fv, ax, ats⟩, ty, pos, af, g⟩ W K :=
 yZ L0 L2 i j p he (aL k) (fun a b c d => by have := n a b c d; simpa using this) h
theorem tZ {K' : Value → List (Nat × Obj) → eV → Prop} {L0 L2 : List (Nat × Obj)} (i : ST dd F w W μ L) (j : L.Perm (L0 ++ L2)) (he : ∀ args w, (callFunc f args).run P w = .ok (.enter f args) w) (n : pD L0 W → (L0.map (·.1)).Nodup → eT μ (iR W L0) → (∀ b o, (b, o) ∈ L2 → iR W L0 b = some o) → gm dd P f args W μ L0 K') (h : ∀ W' v μ' L1, ST dd F w W' μ' (L1 ++ L2) → eT μ μ' → Lo F w μ μ' → K' v L1 μ' → K v W') (p : eL E fv = .func (.func f) #[] #[] := by exact rfl) (k : ax.toList.map (eL E) = args := by exact rfl) : gK P E ⟨d, .call ⟨.value fv, ax, ats⟩, ty, pos, af, g⟩ W K :=
 uC L0 L2 i j p he (aL k) (fun a b c d => by have := n a b c d; simpa using this) h
end
def A8 (R : List (Nat × Obj)) (k : Nat) (p : Value) (i a : Nat) : Prop := ∃ g o, R = [(g, o)] ∧ p = .pointer (some ⟨g, i * k + a, none⟩)
theorem pV.f {R : List (Nat × Obj)} {k : Nat} {p : Value} {i : Nat} (h : pV R k p i) : A8 R k p i 0 := h
section
variable {P : Program} {E : Nat → Value} {W : World} {d : Option Nat} {ty : TypeId} {pos : String} {af : Array Edge} {g : Option (Nat × Bool)}
 {dd : Bool} {F : Nat → Prop} {w : World} {μ : eV} {L : List (Nat × Obj)} {α : Type} {e' : TypeId} {enc : α → List Value} {k : Nat} {v : Value} {l : List α} {R : List (Nat × Obj)}
theorem fp.put (h : fp e' enc k v l R) (hk : ∀ x, (enc x).length = k) {p : Value} {i : Nat} (hp : pV R k p i) {x0 : α} (u : l[i]? = some x0) (x1 : α) :
  ∃ g a, R = [(g, .cells a e' (0, 0))] ∧ p = .pointer (some ⟨g, i * k, none⟩) ∧ i * k + k ≤ a.size ∧ (∀ j y, (enc x0)[j]? = some y → a[i * k + j]? = some y) ∧
   fp e' enc k v (l.set i x1) [(g, .cells (a.toList.take (i * k) ++ enc x1 ++ a.toList.drop (i * k + k)).toArray e' (0, 0))] := by
 have o : i < l.length := (aI.1 u).1
 obtain ⟨s, a, cap, rfl, rfl, t, A, n, D, rfl, E⟩ := pC h hk hp u
 have hle : i * k + k ≤ cap * k := by
  have : (i + 1) * k ≤ cap * k := bk _ (by omega)
  rwa [bp, eE] at this
 have c : i * k + k ≤ l.length * k := by
  have : (i + 1) * k ≤ l.length * k := bk _ (by omega)
  rwa [bp, eE] at this
 have hlen : l.length * k ≤ cap * k := bk _ t
 refine ⟨s, a, rfl, rfl, by rw [n]; exact hle, E, .inr ⟨s, cap, _, by simp, rfl, by simpa using t, A, ?_, ?_⟩⟩
 ·show ((a.toList.take (i * k) ++ (enc x1) ++ a.toList.drop (i * k + k)).toArray).size = _
  have d : a.toList.length = cap * k := by simpa using n
  rw [bM, aH, aH, bt, dg, hk, d, bO (by omega)]; omega
 ·rw [dI, qZ hk l i x1 o, ← D]
  have w : (a.toList.take (l.length * k)).take (i * k) = a.toList.take (i * k) := by rw [dw]; congr 1; omega
  have z : (a.toList.take (l.length * k)).drop (i * k + k) = (a.toList.drop (i * k + k)).take (l.length * k - (i * k + k)) := by rw [List.drop_take]
  rw [w, z]
  show List.take (l.length * k) (a.toList.take (i * k) ++ enc x1 ++ a.toList.drop (i * k + k)) = _
  have d : a.toList.length = cap * k := by simpa using n
  have q : (a.toList.take (i * k) ++ enc x1).length = i * k + k := by rw [aH, bt, hk, d, bO (by omega)]
  rw [dD, cu (by rw [q]; exact c), q]
end
theorem oc {v : Value} (h : v.cells.toList.all Value.oneCell' = true := by exact rfl) : ∀ u ∈ v.cells.toList, u.oneCell' = true := List.all_eq_true.1 h
theorem dc {p : Prop} [Decidable p] (h : p := by decide) : p := h
theorem kr {p : Prop} (h : p := by kernel_rfl) : p := h
abbrev LO := List (Nat × Obj)
abbrev Ob (c : Array Value) (t : TypeId) : Obj := .cells c t (0, 0)
abbrev Ol (c : List Value) (t : TypeId) : Obj := .cells c.toArray t (0, 0)
theorem mj {P : Program} {t e : TypeId} {m k : Nat} {z : Value} {qs : Array (Nat × Value)} {cs : Array Value} (i : P.underlying t = some (.slice e)) (g : ∀ w, (sizeOf e).run P w = .ok k w) (n : ∀ w, (zeroValue e).run P w = .ok z w) (hm : m * k ≤ 16777216 := by decide) (d : qs.toList = (qs.toList.map (·.2)).zipIdx.map (fun p => (p.2, p.1)) := by exact rfl) (j : (qs.toList.map (·.2)).all (fun v => v.cells.size == k) = true := by exact rfl) (c : (qs.toList.map (·.2)).length = m := by exact rfl) (a : ((qs.toList.map (·.2)).flatMap (fun v => v.cells.toList)).toArray = cs := by exact rfl) (W : World) :
  (Instr.buildSlice t m qs).run P W = .ok (.slice (some ⟨W.heap.size, 0, none⟩) m m) (W.alloc (.cells cs e (0, 0))) :=
 lj _ i g n hm d (fun v h => eq_of_beq (List.all_eq_true.1 j v h)) c a W
section
variable {dd : Bool} {P : Program} {fn : Func} {E : Nat → Value} {W w : World} {μ : eV} {L L0 : List (Nat × Obj)}
theorem rQ {α : Type} {f : α → Value} {a r : α} {t : Tmp} (hm : some a = some r) (c : ST dd fY w W μ L) (d : fn.results = #[.tmp t] := by exact rfl) (g : E t = f a := by exact rfl) : lo P fn (fun e W' => e = .returned (f r) ∧ Ex dd w W') .ret E W := by
 obtain rfl := sj hm; exact fL d g ⟨rfl, c.ex⟩
theorem cG (n : Nat) {f : FuncId} {c : Code} {args : List Value} {v : Value} (a : P.funcs[f]? = some fn) (d : fn.body = some c) (h : ST dd fY w w (hp w) [] → CW P n c (lo P fn (fun e j => e = .returned v ∧ Ex dd w j)) (lp args) w) (i : fn.ntmps = n := by exact rfl) (g : args.length ≤ n := by exact nb) : fQ dd P f args w v := ml a d i g (h (ST.start w))
theorem sh {K : Value → List (Nat × Obj) → World → Prop} (n : Nat) {f : FuncId} {c : Code} {args : List Value} (a : P.funcs[f]? = some fn) (g : fn.body = some c) (h : ST dd fY w w (hp w) [] → CW P n c (lo P fn (fun e d => ∃ v L1, e = .returned v ∧ iF dd [] L1 w d ∧ K v L1 d)) (lp args) w) (j : fn.ntmps = n := by exact rfl) (i : args.length ≤ n := by exact nb) : fX dd P f args w [] K := ml a g j i (h (ST.start w))
theorem sR {K : Value → List (Nat × Obj) → World → Prop} (g : jL μ L0 w) (n : Nat) {f : FuncId} {c : Code} {args : List Value} (a : P.funcs[f]? = some fn) (i : fn.body = some c) (h : ST dd (keys L0) w w μ L0 → CW P n c (lo P fn (fun e d => ∃ v L1, e = .returned v ∧ iF dd L0 L1 w d ∧ K v L1 d)) (lp args) w) (k : fn.ntmps = n := by exact rfl) (j : args.length ≤ n := by exact nb) : fX dd P f args w L0 K := ml a i k j (h (ST.kG g))
theorem zF {K : Value → List (Nat × Obj) → eV → Prop} (g : jL μ L0 w) (n : Nat) {f : FuncId} {c : Code} {args : List Value} (a : P.funcs[f]? = some fn) (i : fn.body = some c) (h : ST dd (keys L0) w w μ L0 → CW P n c (lo P fn (fun e d => ∃ v L1 μ1, e = .returned v ∧ iF dd L0 L1 w d ∧ eT μ μ1 ∧ Lo (keys L0) w μ μ1 ∧ eT μ1 (iR d L1) ∧ K v L1 μ1)) (lp args) w) (k : fn.ntmps = n := by exact rfl) (j : args.length ≤ n := by exact nb) : gm dd P f args w μ L0 K := ml a i k j (h (ST.kG g))
end
section
variable {dd : Bool}
variable {P : Program} {E : Nat → Value} {W : World} {d : Option Nat} {ty : TypeId} {pos : String} {af : Array Edge} {g : Option (Nat × Bool)}
 {F : Nat → Prop} {w : World} {μ : eV} {L : List (Nat × Obj)}
variable {f : FuncId} {fv : Operand} {ax : Array Operand} {ats : Array TypeId} {args : List Value} {v : Value} {K : Value → World → Prop}
theorem eM {K' : Value → List (Nat × Obj) → World → Prop} {L0 L2 : List (Nat × Obj)} (i : ST dd F w W μ L) (j : L.Perm (L0 ++ L2)) (he : ∀ args w, (callFunc f args).run P w = .ok (.enter f args) w) (n : jL (iR W L0) L0 W → eT μ (iR W L0) → fX dd P f args W L0 K') (h : ∀ W' v μ' L1, ST dd F w W' μ' (L1 ++ L2) → eT μ μ' → Lo F w μ μ' → (∀ b, W.heap.size ≤ b → ∀ o, iR W' L1 b = some o → μ' b = some o) → K' v L1 W' → K v W') (p : eL E fv = .func (.func f) #[] #[] := by exact rfl) (k : ax.toList.map (eL E) = args := by exact rfl) : gK P E ⟨d, .call ⟨.value fv, ax, ats⟩, ty, pos, af, g⟩ W K :=
 yA i j he (fun a b c _ => n ⟨a, b, eT.refl _⟩ c) h p k
theorem eD {K' : Value → List (Nat × Obj) → eV → Prop} {L0 L2 : List (Nat × Obj)} (i : ST dd F w W μ L) (j : L.Perm (L0 ++ L2)) (he : ∀ args w, (callFunc f args).run P w = .ok (.enter f args) w) (n : jL μ L0 W → gm dd P f args W μ L0 K') (h : ∀ W' v μ' L1, ST dd F w W' μ' (L1 ++ L2) → eT μ μ' → Lo F w μ μ' → K' v L1 μ' → K v W') (o : eL E fv = .func (.func f) #[] #[] := by exact rfl) (k : ax.toList.map (eL E) = args := by exact rfl) : gK P E ⟨d, .call ⟨.value fv, ax, ats⟩, ty, pos, af, g⟩ W K :=
 tZ i j he (fun a b c _ => n ⟨a, b, c⟩) h o k
end
def wH (op : BinOp) : Value → Value → Option Value
 | .int k a, .int k' b => if k = k' then tw k op a b else none
 | _, _ => none
def zj (i : Nat) : Value → Option Value
 | .tuple vs => vs[i]?
 | _ => none
def tB : Value → Bool
 | .pointer (some ⟨_, _, none⟩) => true
 | _ => false
def zT (o : Nat) : Value → Value
 | .pointer (some ⟨b, k, none⟩) => .pointer (some ⟨b, k + o, none⟩)
 | v => v
theorem sZ {v : Value} (h : tB v = true) : ∃ b k, v = .pointer (some ⟨b, k, none⟩) := by
 unfold tB at h; split at h
 ·exact ⟨_, _, rfl⟩
 ·cases h
section
variable {P : Program} {n : Nat} {Q : gn} {E : Nat → Value} {W : World} {ops : Array Oper} {rest : List Oper}
 {d j t : Nat} {want b : Bool} {v : Value} {ins : Go.Op} {ty : TypeId} {pos : String} {af : Array Edge} {A : Value → Prop} {x y : Operand}
theorem Wm (h : LW P n ops Q rest (gb E d (eL E x)) W) (a : d < n := by decide) : LW P n ops Q (⟨some d, .move x, ty, pos, af, none⟩ :: rest) E W := V (eZ rfl) h a
theorem Wa (h : LW P n ops Q rest (gb E d (eL E x)) W) (a : d < n := by decide) : LW P n ops Q (⟨some d, .assign x, ty, pos, af, none⟩ :: rest) E W := V (fO rfl) h a
theorem Wh (c : eL E x = v) (h : LW P n ops Q rest (gb E d v) W) (a : d < n := by decide) : LW P n ops Q (⟨some d, .move x, ty, pos, af, none⟩ :: rest) E W := V (eZ c) h a
theorem Wg (c : eL E x = v) (h : LW P n ops Q rest (gb E d v) W) (a : d < n := by decide) : LW P n ops Q (⟨some d, .assign x, ty, pos, af, none⟩ :: rest) E W := V (fO c) h a
theorem Wx {i : Nat} (a : zj i (eL E x) = some v) (h : LW P n ops Q rest (gb E d v) W) (c : d < n := by decide) : LW P n ops Q (⟨some d, .extract x i, ty, pos, af, none⟩ :: rest) E W := by
 unfold zj at a; split at a
 ·rename_i vs e; exact V (iv e a) h c
 ·cases a
theorem Wi {op : BinOp} {tx tv : TypeId} (c : wH op (eL E x) (eL E y) = some v) (h : LW P n ops Q rest (gb E d v) W) (j : d < n := by decide) : LW P n ops Q (⟨some d, .binOp op tx x y tv, ty, pos, af, none⟩ :: rest) E W := by
 unfold wH at c; split at c
 ·rename_i k a k' b g i
  split at c
  ·rename_i e; subst e; exact V (gi g i c) h j
  ·cases c
 ·cases c
theorem Wf {t : TypeId} {f off : Nat} (a : gA P t f off) (h : LW P n ops Q rest (gb E d (zT off (eL E x))) W) (hp : tB (eL E x) = true := by exact rfl) (c : d < n := by decide) : LW P n ops Q (⟨some d, .fieldAddr t x f, ty, pos, af, none⟩ :: rest) E W := by
 obtain ⟨b, k, e⟩ := sZ hp
 refine V (fe a e) ?_ c
 rw [e] at h; exact h
theorem Wn (h : LW P n ops Q rest (gb E d (eL E x)) W) (hp : tB (eL E x) = true := by exact rfl) (a : d < n := by decide) : LW P n ops Q (⟨some d, .nilCheck x, ty, pos, af, none⟩ :: rest) E W := by
 obtain ⟨b, k, e⟩ := sZ hp
 refine V (kK e) ?_ a
 rw [e] at h; exact h
theorem un (h : b = !want) (k : LW P n ops Q rest (gb E d undef) W) (c : (ops[j]?).bind (·.dst) = some t := by exact rfl) (a : E t = .bool b := by exact rfl) (i : t < n := by decide) (g : d < n := by decide) :
  LW P n ops Q (⟨some d, ins, ty, pos, af, some (j, want)⟩ :: rest) E W := Vn c (by rw [a, h]) k i g
theorem ug (h : b = want) (i : fC P E ⟨some d, ins, ty, pos, af, some (j, want)⟩ W v W) (k : LW P n ops Q rest (gb E d v) W) (c : (ops[j]?).bind (·.dst) = some t := by exact rfl) (a : E t = .bool b := by exact rfl) (o : t < n := by decide) (g : d < n := by decide) :
  LW P n ops Q (⟨some d, ins, ty, pos, af, some (j, want)⟩ :: rest) E W := Vg c (by rw [a, h]) i k o g
theorem lA (h : b = want) (k : gK P E ⟨some d, ins, ty, pos, af, some (j, want)⟩ W fun v W' => LW P n ops Q rest (gb E d v) W') (c : (ops[j]?).bind (·.dst) = some t := by exact rfl) (a : E t = .bool b := by exact rfl) (i : t < n := by decide) (g : d < n := by decide) :
  LW P n ops Q (⟨some d, ins, ty, pos, af, some (j, want)⟩ :: rest) E W := qT c (by rw [a, h]) k i g
section
variable {dd : Bool} {F : Nat → Prop} {w : World} {μ : eV} {L : List (Nat × Obj)} {T : TypeId} {a off : Nat} {cs : Array Value} {fr : Nat × Nat}
theorem VA {t : TypeId} (c : ST dd F w W μ L) (i : (a, Obj.cells cs T fr) ∈ L) (ys : List Value) (g : ∀ w, (isAgg t).run P w = .ok true w) (j : ∀ w, (sizeOf t).run P w = .ok ys.length w) (h : LW P n ops Q rest (gb E d (.agg ys.toArray)) W) (o : eL E x = .pointer (some ⟨a, off, none⟩) := by exact rfl) (p : (cs.toList.drop off).take ys.length = ys := by exact rfl) (k : d < n := by decide) : LW P n ops Q (⟨some d, .load t x, ty, pos, af, none⟩ :: rest) E W := V (eU o (fh c.has i ys p g j)) h k
theorem VB {t : TypeId} (c : ST dd F w W μ L) (i : (a, Obj.cells cs T fr) ∈ L) (k : eL E x = .pointer (some ⟨a, off, none⟩)) (o : cs[off]? = some v) (g : ∀ w, (isAgg t).run P w = .ok false w) (h : LW P n ops Q rest (gb E d v) W) (j : d < n := by decide) : LW P n ops Q (⟨some d, .load t x, ty, pos, af, none⟩ :: rest) E W := V (eU k (fx c.has i o g)) h j
end
section
variable {K : (Nat → Value) → World → Prop} {Q' : gn} {c : Code} {id id2 : Nat} {l : List Oper} {z : Code}
theorem sg (h : LW P n l.toArray (gS (fun E W => CW P n c Q E W) Q) l E W) : CW P n (.seq (.region id l.toArray false) c) Q E W := fm (eW h)
theorem ln (h : K E W) : LW P n ops (gS K Q) [] E W := fB (fj h)
theorem lr (h : LW P n l.toArray (gS (fun E W => CW P n c Q E W) Q) l E W) : LW P n ops (gS (fun E W => CW P n (.seq (.region id l.toArray false) c) Q E W) Q') [] E W := fB (fj (fm (eW h)))
theorem lS (h : LW P n l.toArray (gS (fun E W => CW P n c (gS (fun E W => CW P n z Q E W) Q) E W) (gS (fun E W => CW P n z Q E W) Q)) l E W) : LW P n ops (gS (fun E W => CW P n (.seq (.seq (.region id l.toArray false) c) z) Q E W) Q') [] E W := fB (fj (fm (fm (eW h))))
theorem bg (h : LW P n l.toArray (gS (fun E W => CW P n c (lc id2 Q) E W) (lc id2 Q)) l E W) : CW P n (.block id2 (.seq (.region id l.toArray false) c)) Q E W := kq (fm (eW h))
theorem kg (h : LW P n l.toArray (gS (fun E W => CW P n c Q E W) Q) l E W) : CW P n .skip (gS (fun E W => CW P n (.seq (.region id l.toArray false) c) Q E W) Q') E W := gH (fj (fm (eW h)))
theorem kS (h : LW P n l.toArray (gS (fun E W => CW P n c (gS (fun E W => CW P n z Q E W) Q) E W) (gS (fun E W => CW P n z Q E W) Q)) l E W) : CW P n .skip (gS (fun E W => CW P n (.seq (.seq (.region id l.toArray false) c) z) Q E W) Q') E W := gH (fj (fm (fm (eW h))))
theorem lt (h : Q .ret E W) : LW P n ops (gS (fun E W => CW P n .ret Q E W) Q') [] E W := fB (fj (gq h))
theorem kn (h : K E W) : CW P n .skip (gS K Q) E W := gH (fj h)
end
end
theorem tQ.mono {α β : Type} {P : Program} {fv : Value} {μ μ0 : eV} {a : α → List Value} {c : β → Value} {pm : α → Option β} (h : tQ P fv μ a c pm) (i : eT μ μ0) : tQ P fv μ0 a c pm := by
 obtain ⟨f, caps, h1, d, g⟩ := h
 exact ⟨f, caps, h1, d, fun W x r h => g W x r (i.trans h)⟩
theorem tQ.form {α β : Type} {P : Program} {fv : Value} {μ : eV} {c : α → List Value} {d : β → Value} {pm : α → Option β} (h : tQ P fv μ c d pm) : ∃ f a b, fv = .func f a b := let ⟨f, b, h, _⟩ := h; ⟨_, _, b, h⟩
def rM {S : Type} (rd : S → List Int) : Int ⊕ S → Int
 | .inl x => x
 | .inr r => if (rd r).length > 0 then 13 else 0
def wB (P : Program) (fn : Func) (R : Ending → World → Prop) : gn
 | .normal, E, W | .ret, E, W => ∃ v, (∀ tmps : Array Value, (∀ t, tmps.getD t undef = E t) → (results fn tmps).run P W = .ok v W) ∧ R (.returned v) W
 | .panic c, _, W => R (.panicked c) W
 | _, _, _ => False
theorem jX {P : Program} {fn : Func} {R : Ending → World → Prop} {E : Nat → Value} {W : World} (h : lo P fn R .ret E W) : wB P fn R .ret E W := h
theorem ig {P : Program} {f : FuncId} {fn : Func} {c : Code} {args : List Value} {w : World} {R : Ending → World → Prop} {n : Nat} (q : P.funcs[f]? = some fn) (p : fn.body = some c) (u : fn.ntmps = n) (s : args.length ≤ n) (h : CW P n c (wB P fn R) (lp args) w) : Calls P f args.toArray w R := by
 refine calls_of_wp q p ?_
 have j : Ag n { tmps := args.toArray ++ Array.replicate (fn.ntmps - args.toArray.size) undef, defers := [] } (lp args) := by
  refine ⟨by simp; omega, rfl, fun t => ?_⟩
  simp only [lp, bn, de, cT, dn, bM, cU]
  by_cases o : t < args.length
  ·rw [aD o]
  ·rw [aF o, cd (by omega)]
   split <;> simp
 refine dq (h _ j) (fun e a x g => ?_)
 cases e with
 | normal =>
  obtain ⟨E, d, v, k, i⟩ := g
  exact ⟨d.2.1, v, k _ d.2.2, i⟩
 | ret =>
  obtain ⟨E, d, v, k, i⟩ := g
  exact ⟨d.2.1, v, k _ d.2.2, i⟩
 | exit id => obtain ⟨E, d, h⟩ := g; exact h.elim
 | goto l => obtain ⟨E, d, h⟩ := g; exact h.elim
 | panic c => exact g
 | outgrown => exact g.elim
def vm (P : Program) (E : Nat → Value) (o : Oper) (W : World) (X : List PanicEntry → World → Prop) : Prop :=
 (∃ v W', (execOp (eL E) o).run P W = .halt (.panic v) W' ∧ X [{ v := v, recovered := false }] W') ∨
 (∃ f args, (execOp (eL E) o).run P W = .ok (.enter f args) W ∧ Calls P f args W fun e a => ∃ c, e = .panicked c ∧ X c a)
theorem vm.wp {P : Program} {n : Nat} {E : Nat → Value} {o : Oper} {W : World} {X : List PanicEntry → World → Prop} (h : vm P E o W X) {a : Act} (g : Ag n a E) {K : Exit → Act → World → Prop} {J : Act → World → Prop} (hk : ∀ c w, X c w → K (.panic c) a w) : o.wp P a W J K := by
 unfold Oper.wp
 rw [g.eval]
 rcases h with ⟨v, W', h1, d⟩ | ⟨f, args, h1, d⟩
 ·rw [h1]; exact hk _ _ d
 ·rw [h1, cr]
  refine bi d ?_
  rintro e j ⟨c, rfl, i⟩
  exact hk _ _ i
section
variable {P : Program} {n : Nat} {Q : gn} {E : Nat → Value} {W : World} {ops : Array Oper} {rest : List Oper} {S : Array Bool → World → Prop} {fuel : Nat} {listed : Array Bool}
theorem iL {o : Oper} (hw : gE n ops E o) (h : vm P E o W fun c w => Q (.panic c) E0 w) : LW P n ops Q (o :: rest) E W := fun a d => by
 unfold wpList
 rw [aD (hw.of d)]
 refine .inl ?_
 exact h.wp d (fun c w g => ⟨d.2.1, g⟩)
end
def fI {R : Type} (dd : Bool) (w : World) (μ0 : eV) (L0 : List (Nat × Obj)) (s : Int ⊕ R) (K : R → Value → List (Nat × Obj) → eV → Prop) (X : Int → List PanicEntry → List (Nat × Obj) → eV → Prop) : Ending → World → Prop := fun e a =>
 match s with
 | .inl x => ∃ c L1 μ1, e = .panicked c ∧ iF dd L0 L1 w a ∧ eT μ0 μ1 ∧ Lo (keys L0) w μ0 μ1 ∧ eT μ1 (iR a L1) ∧ X x c L1 μ1
 | .inr r => ∃ v L1 μ1, e = .returned v ∧ iF dd L0 L1 w a ∧ eT μ0 μ1 ∧ Lo (keys L0) w μ0 μ1 ∧ eT μ1 (iR a L1) ∧ K r v L1 μ1
def qu (dd : Bool) (P : Program) (f : FuncId) (args : List Value) (w : World) (μ0 : eV) (L0 : List (Nat × Obj)) (X : List PanicEntry → List (Nat × Obj) → eV → Prop) : Prop :=
 Calls P f args.toArray w fun e a => ∃ c L1 μ1, e = .panicked c ∧ iF dd L0 L1 w a ∧ eT μ0 μ1 ∧ Lo (keys L0) w μ0 μ1 ∧ eT μ1 (iR a L1) ∧ X c L1 μ1
def fc {R : Type} (dd : Bool) (P : Program) (f : FuncId) (args : List Value) (w : World) (μ0 : eV) (L0 : List (Nat × Obj)) (s : Int ⊕ R) (K : R → Value → List (Nat × Obj) → eV → Prop) (X : Int → List PanicEntry → List (Nat × Obj) → eV → Prop) : Prop :=
 Calls P f args.toArray w (fI dd w μ0 L0 s K X)
theorem fc.r {R : Type} {dd : Bool} {P : Program} {f : FuncId} {args : List Value} {w : World} {μ0 : eV} {L0 : List (Nat × Obj)} {r : R} {K : R → Value → List (Nat × Obj) → eV → Prop} {X : Int → List PanicEntry → List (Nat × Obj) → eV → Prop} (h : fc dd P f args w μ0 L0 (.inr r) K X) : gm dd P f args w μ0 L0 (K r) := h
theorem fc.l {R : Type} {dd : Bool} {P : Program} {f : FuncId} {args : List Value} {w : World} {μ0 : eV} {L0 : List (Nat × Obj)} {x : Int} {K : R → Value → List (Nat × Obj) → eV → Prop} {X : Int → List PanicEntry → List (Nat × Obj) → eV → Prop} (h : fc dd P f args w μ0 L0 (.inl x : Int ⊕ R) K X) : qu dd P f args w μ0 L0 (X x) := h
theorem gk {K : (Nat → Value) → World → Prop} {Q : gn} {c : List PanicEntry} {E : Nat → Value} {W : World} (h : Q (.panic c) E W) : gS K Q (.panic c) E W := h
theorem np {id : Nat} {Q : gn} {c : List PanicEntry} {E : Nat → Value} {W : World} (h : Q (.panic c) E W) : lc id Q (.panic c) E W := h
theorem gP {P : Program} {fn : Func} {R : Ending → World → Prop} {c : List PanicEntry} {E : Nat → Value} {W : World} (h : R (.panicked c) W) : wB P fn R (.panic c) E W := h
section
variable {P : Program} {W : World} {E : Nat → Value} {d : Option Nat} {ty : TypeId} {pos : String} {af : Array Edge} {g : Option (Nat × Bool)} {F : Nat → Prop} {w : World} {μ : eV} {L : List (Nat × Obj)} {dd : Bool}
theorem gl {X : List PanicEntry → World → Prop} {X' : List PanicEntry → List (Nat × Obj) → eV → Prop} {f : FuncId} {fv : Operand} {ax : Array Operand} {ats : Array TypeId} {caps : Array Value} {args : List Value} (L0 L2 : List (Nat × Obj)) (a : ST dd F w W μ L) (i : L.Perm (L0 ++ L2)) (A : eL E fv = .func (.func f) #[] caps) (he : ∀ args w, (callFunc f args).run P w = .ok (.enter f args) w) (x : ax.map (eL E) ++ (#[] : Array Value) = args.toArray) (z : pD L0 W → (L0.map (·.1)).Nodup → eT μ (iR W L0) → (∀ b o, (b, o) ∈ L2 → iR W L0 b = some o) → qu dd P f (args ++ caps.toList) W μ L0 X') (h : ∀ W' c μ' L1, ST dd F w W' μ' (L1 ++ L2) → eT μ μ' → Lo F w μ μ' → X' c L1 μ' → X c W') : vm P E ⟨d, .call ⟨.value fv, ax, ats⟩, ty, pos, af, g⟩ W X := by
 have j : ax.map (eL E) = args.toArray := by simpa using x
 refine .inr ⟨f, (args ++ caps.toList).toArray, sN A he (by rw [j]; simp), bi (z (a.held i) (a.xQ i) (a.xJ i) (a.sE i)) (fun _ W' ⟨v, L1, μ1, h1, n, p, k, s, t⟩ => ⟨v, h1, h W' v μ1 L1 ((a.perm i).ye n k s) p (fun b y u => k b (bG y a.size) (fun ⟨o, D⟩ => by
  rcases ((a.perm i).box b o (aW _ D)).2.2 with q | q
  ·omega
  ·exact u q)) t⟩)⟩
end
section
variable {P : Program} {W : World} {E : Nat → Value} {d : Option Nat} {ty : TypeId} {pos : String} {af : Array Edge} {g : Option (Nat × Bool)}
def kO (t : TypeId) (b : Nat) (x : Int) : Value := .iface t (.agg #[.pointer (some ⟨b, 0, none⟩), .int .i64 x])
theorem zb {t : TypeId} {x : Operand} {v : Value} {u : TypeDesc} (a : P.underlying t = some u) (hu : ∀ q, u ≠ .interface q) (c : eL E x = v) : fC P E ⟨d, .makeInterface t x, ty, pos, af, g⟩ W (.iface t v) W := by
 show (do let r ← Instr.makeInterface t (eL E x); pure (.value r) : Sem Next).run P W = _
 rw [c]
 unfold Instr.makeInterface
 simp only [aX, aA a, aJ]
 cases u <;> simp_all
theorem yG {X : List PanicEntry → World → Prop} {x : Operand} {t : TypeId} {v : Value} (a : eL E x = .iface t v) (h : X [{ v := .iface t v, recovered := false }] W) : vm P E ⟨d, .panic x, ty, pos, af, g⟩ W X := by
 refine .inl ⟨.iface t v, W, ?_, h⟩
 show (do let r ← Instr.panic (eL E x); pure (.value r) : Sem Next).run P W = _
 rw [a]
 simp [Instr.panic]
end
theorem fI.li {R : Type} {dd : Bool} {w : World} {μ0 : eV} {L0 : List (Nat × Obj)} {x : Int} {K : R → Value → List (Nat × Obj) → eV → Prop} {X : Int → List PanicEntry → List (Nat × Obj) → eV → Prop} {e : Ending} {a : World} (h : ∃ c L1 μ1, e = .panicked c ∧ iF dd L0 L1 w a ∧ eT μ0 μ1 ∧ Lo (keys L0) w μ0 μ1 ∧ eT μ1 (iR a L1) ∧ X x c L1 μ1) : fI dd w μ0 L0 (.inl x : Int ⊕ R) K X e a := h
theorem fI.ri {R : Type} {dd : Bool} {w : World} {μ0 : eV} {L0 : List (Nat × Obj)} {r : R} {K : R → Value → List (Nat × Obj) → eV → Prop} {X : Int → List PanicEntry → List (Nat × Obj) → eV → Prop} {e : Ending} {a : World} (h : ∃ v L1 μ1, e = .returned v ∧ iF dd L0 L1 w a ∧ eT μ0 μ1 ∧ Lo (keys L0) w μ0 μ1 ∧ eT μ1 (iR a L1) ∧ K r v L1 μ1) : fI dd w μ0 L0 (.inr r : Int ⊕ R) K X e a := h
theorem sK {P : Program} {fn : Func} {R : Ending → World → Prop} {E : Nat → Value} {W : World} (h : lo P fn R .normal E W) : wB P fn R .normal E W := h
theorem qu.gz {dd : Bool} {P : Program} {f : FuncId} {args : List Value} {w : World} {μ0 : eV} {L0 : List (Nat × Obj)} {X : List PanicEntry → List (Nat × Obj) → eV → Prop} (h : qu true P f args w μ0 L0 X) : qu dd P f args w μ0 L0 X :=
 bi h fun _ _ ⟨v, L1, μ1, h1, a, c⟩ => ⟨v, L1, μ1, h1, a.gz, c⟩
def oK (D : List Deferred) (n : Nat) (a : Act) (E : Nat → Value) : Prop := a.tmps.size = n ∧ a.defers = D ∧ ∀ t, a.tmps.getD t undef = E t
section
variable {D : List Deferred} {n : Nat} {a : Act} {E : Nat → Value}
theorem oK.eval (h : oK D n a E) : a.eval = eL E := by
 funext x
 cases x with
 | tmp t => exact h.2.2 t
 | const v => rfl
 | global g => rfl
 | func f => rfl
theorem oK.put (h : oK D n a E) {d : Nat} (i : d < n) (v : Value) : oK D n (a.put (some d) v) (gb E d v) := by
 refine ⟨by simp [Act.put, h.1], h.2.1, fun t => ?_⟩
 have g := h.2.2 t
 simp only [Act.put, gb]
 by_cases c : t = d
 ·subst c
  simp [h.1, i]
 ·have : ¬ d = t := fun e => c e.symm
  rw [aF c, ← g]
  simp [bn, this]
theorem oK.kv (h : oK D n a E) (v : Value) : oK D n (a.put none v) E := h
theorem oK.yield (h : oK D n a E) {ops : Array Oper} {j t : Nat} {b : Bool} (d : (ops[j]?).bind (·.dst) = some t) (i : t < n) (k : E t = .bool b) : yielded ops a.tmps j = some b := by
 have c := h.2.2 t
 have g : a.tmps[t]? = some (E t) := by
  rw [← c]
  simp [bn, h.1, i]
 simp [yielded, d, g, k]
end
def wz (D : List Deferred) (n : Nat) (Q : gn) : Exit → Act → World → Prop
 | .panic c, a, w => a.defers = D ∧ a.tmps.size = n ∧ Q (.panic c) (fun t => a.tmps.getD t undef) w
 | .outgrown, _, _ => False
 | e, a, w => ∃ E, oK D n a E ∧ Q e E w
def pR (D : List Deferred) (P : Program) (n : Nat) (c : Code) (Q : gn) (E : Nat → Value) (W : World) : Prop := ∀ a, oK D n a E → c.wp P (wz D n Q) a W
def oh (D : List Deferred) (P : Program) (n : Nat) (ops : Array Oper) (Q : gn) (l : List Oper) (E : Nat → Value) (W : World) : Prop := ∀ a, oK D n a E → wpList P ops (wz D n Q) l a W
section
variable {D : List Deferred} {P : Program} {n : Nat} {Q : gn} {E : Nat → Value} {W : World} {c x y : Code} {ops : Array Oper} {rest : List Oper} {o : Oper}
theorem nT (h : pR D P n x (gS (fun E W => pR D P n y Q E W) Q) E W) : pR D P n (.seq x y) Q E W := fun a g =>
 wp_seq (dq (h a g) (fun e d j h => by
  cases e with
  | normal => obtain ⟨E', c, i⟩ := h; exact i d c
  | _ => exact h))
theorem xy (h : Q .normal E W) : pR D P n .skip Q E W := fun _ a => wp_skip ⟨E, a, h⟩
theorem vu (h : Q .ret E W) : pR D P n .ret Q E W := fun _ a => wp_ret ⟨E, a, h⟩
theorem xq {co : Operand} {b : Bool} (d : eL E co = .bool b) (i : b = true → pR D P n x Q E W) (g : b = false → pR D P n y Q E W) : pR D P n (.cond co x y) Q E W := fun a c => by
 refine wp_cond_split (t := b) (by rw [c.eval]; exact d) (fun h => i h a c) (fun h => g h a c)
theorem uL {co : Operand} (a : eL E co = .bool true) (h : pR D P n x Q E W) : pR D P n (.cond co x y) Q E W := xq a (fun _ => h) (fun h => by cases h)
theorem mV {id : Nat} {l : List Oper} (h : oh D P n l.toArray Q l E W) : pR D P n (.region id l.toArray false) Q E W := fun a c => wp_region_lit (h a c)
theorem pn (h : Q .normal E W) : oh D P n ops Q [] E W := fun _ a => wpList_nil ⟨E, a, h⟩
theorem gE.tK {a : Act} (h : gE n ops E o) (d : oK D n a E) : Region.wanted o (yielded ops a.tmps) = true := by
 rcases h with h | ⟨j, want, t, g, i, k, c⟩
 ·simp [Region.wanted, h]
 ·simp [Region.wanted, g, d.yield i k c]
theorem vn {d : Nat} {v : Value} {W' : World} (hw : gE n ops E o) (g : o.dst = some d) (i : d < n) (j : (execOp (eL E) o).run P W = .ok (.value v) W') (h : oh D P n ops Q rest (gb E d v) W') : oh D P n ops Q (o :: rest) E W := fun a c => by
 unfold wpList
 rw [aD (hw.tK c)]
 refine .inl ?_
 unfold Oper.wp
 rw [c.eval, j, cq, g]
 exact h _ (c.put i v)
theorem xi {W' : World} (hw : gE n ops E o) (d : o.dst = none) (g : (execOp (eL E) o).run P W = .ok .skip W') (h : oh D P n ops Q rest E W') : oh D P n ops Q (o :: rest) E W := fun a c => by
 unfold wpList
 rw [aD (hw.tK c)]
 refine .inl ?_
 unfold Oper.wp
 rw [c.eval, g, cY, d]
 exact h _ (c.kv _)
theorem xj {f : FuncId} {args : Array Value} {d : Nat} (hw : gE n ops E o) (i : o.dst = some d) (k : d < n) (p : (execOp (eL E) o).run P W = .ok (.enter f args) W) (h : Calls P f args W fun e g => ∃ v, e = .returned v ∧ oh D P n ops Q rest (gb E d v) g) : oh D P n ops Q (o :: rest) E W := fun a c => by
 unfold wpList
 rw [aD (hw.tK c)]
 refine .inl ?_
 unfold Oper.wp
 rw [c.eval, p, cr]
 refine h.mono ?_
 rintro e g ⟨v, rfl, j⟩
 simp only [i]
 exact j _ (c.put k v)
theorem AG {o : Oper} {dd : Nat} (hw : gE n ops E o) (g : o.dst = some dd) (i : dd < n) (h : gK P E o W fun v W' => oh D P n ops Q rest (gb E dd v) W') : oh D P n ops Q (o :: rest) E W := by
 rcases h with ⟨v, W', h1, c⟩ | ⟨W', h1, c⟩ | ⟨f, args, h1, c⟩
 ·exact vn hw g i h1 c
 ·intro a d
  unfold wpList
  rw [aD (hw.tK d)]
  refine .inl ?_
  unfold Oper.wp
  rw [d.eval, h1, cY, g]
  exact c _ (d.put i _)
 ·exact xj hw g i h1 c
theorem xh {o : Oper} (hw : gE n ops E o) (g : o.dst = none) (h : gK P E o W fun _ W' => oh D P n ops Q rest E W') : oh D P n ops Q (o :: rest) E W := by
 rcases h with ⟨v, W', h1, d⟩ | ⟨W', h1, d⟩ | ⟨f, args, h1, d⟩
 ·intro a c
  unfold wpList
  rw [aD (hw.tK c)]
  refine .inl ?_
  unfold Oper.wp
  rw [c.eval, h1, cq, g]
  exact d _ (c.kv _)
 ·exact xi hw g h1 d
 ·intro a c
  unfold wpList
  rw [aD (hw.tK c)]
  refine .inl ?_
  unfold Oper.wp
  rw [c.eval, h1, cr]
  refine bi d ?_
  rintro e j ⟨v, rfl, i⟩
  simp only [g]
  exact i _ (c.kv _)
theorem nj {dd : Nat} {v : Value} (hw : gE n ops E o) (a : o.dst = some dd) (c : dd < n) (d : fC P E o W v W) (h : oh D P n ops Q rest (gb E dd v) W) : oh D P n ops Q (o :: rest) E W := vn hw a c d h
theorem Ar (hw : gE n ops E o) (h : vm P E o W fun c w => ∀ E', (∀ t, E' t = E t) → Q (.panic c) E' w) : oh D P n ops Q (o :: rest) E W := fun a d => by
 unfold wpList
 rw [aD (hw.tK d)]
 refine .inl ?_
 unfold Oper.wp
 rw [d.eval]
 rcases h with ⟨v, W', h1, g⟩ | ⟨f, args, h1, g⟩
 ·rw [h1]; exact ⟨d.2.1, d.1, g _ d.2.2⟩
 ·rw [h1, cr]
  refine bi g ?_
  rintro e j ⟨c, rfl, i⟩
  exact ⟨d.2.1, d.1, i _ d.2.2⟩
end
section
variable {P : Program} {n : Nat} {E : Nat → Value} {W : World} {c y : Code} {a : Act} {cs : List Frame} {Q : Exit → Act → List Frame → World → Prop}
theorem zX (h : CW P n c (fun e E W => e = .normal ∧ ∀ a, Ag n a E → y.wpS P Q a cs W) E W) (i : Ag n a E) : (Code.seq c y).wpS P Q a cs W :=
 wpS_seq (wpS_of_wp (dq (h a i) (fun e g k h => by
  cases e with
  | normal => obtain ⟨E', d, _, j⟩ := h; exact j g d
  | panic c => exact absurd h.2.1 (by simp)
  | outgrown => exact h.elim
  | _ => obtain ⟨E', d, h1, _⟩ := h; cases h1)))
theorem vy {fn : Func} {g : Frame} {j : List Frame} {R : Ending → FrameMode → World → Prop} {u : FrameMode} (k : fn.results = #[]) (h : CW P n c (fun e E W => (e = .normal ∨ e = .ret) ∧ R (.returned (.tuple #[])) u W) E W) (o : Ag n a E) : c.wpS P (bodyPostS P fn g j R) a ({ g with mode := u } :: j) W :=
 wpS_of_wp (dq (h a o) (fun e p q h => by
  cases e with
  | normal => obtain ⟨E', d, _, i⟩ := h; exact ⟨d.2.1, u, rfl, .tuple #[], results_none k _ _ _, i⟩
  | ret => obtain ⟨E', d, _, i⟩ := h; exact ⟨d.2.1, u, rfl, .tuple #[], results_none k _ _ _, i⟩
  | panic c => rcases h.2.1 with h | h <;> cases h
  | outgrown => exact h.elim
  | _ => obtain ⟨E', d, h1, _⟩ := h; rcases h1 with h | h <;> cases h))
theorem qP {id d d2 : Nat} {c g : Oper} {cs' : List Frame} {v : Value} (q : d < n) (p : d2 < n) (h1 : c.guard = none) (s : g.guard = none) (k : c.dst = some d) (o : g.dst = some d2) (u : ∀ a : Act, (execOp a.eval c).run P W = .ok .recover W) (hm : ∀ E : Nat → Value, E d = v → fC P E g W v W) (j : recoverD cs = some (v, cs') ∨ recoverD cs = none ∧ v = .nilIface ∧ cs' = cs) (i : Ag n a E) (h : ∀ a, Ag n a (gb (gb E d v) d2 v) → Q .normal a cs' W) : (Code.region id #[c, g] false).wpS P Q a cs W := by
 refine wpS_region ?_
 have t : List.range (#[c, g] : Array Oper).size = [0, 1] := rfl
 rw [t]
 have key : ∀ a : Act, Ag n a (gb E d v) → wpOpsS P #[c, g] Q [1] a cs' W := fun a i => by
  unfold wpOpsS
  simp only [show (#[c, g] : Array Oper)[1]? = some g from rfl]
  rw [aD (by simp [Region.wanted, s])]
  have := hm (gb E d v) (by simp [gb])
  unfold fC at this
  rw [i.eval, this]
  simp only [cq, o]
  unfold wpOpsS
  exact h _ (i.put p v)
 unfold wpOpsS
 simp only [show (#[c, g] : Array Oper)[0]? = some c from rfl]
 rw [aD (by simp [Region.wanted, h1]), u]
 simp only
 rcases j with j | ⟨j, rfl, rfl⟩
 ·rw [j]
  simp only [k]
  exact key _ (i.put q v)
 ·rw [j]
  simp only [k]
  exact key _ (i.put q _)
theorem uJ {args : List Value} {fn : Func} {n : Nat} (c : fn.ntmps = n) (h : args.length ≤ n) : Ag n { tmps := args.toArray ++ Array.replicate (fn.ntmps - args.toArray.size) undef, defers := [] } (lp args) := by
 refine ⟨by simp; omega, rfl, fun t => ?_⟩
 simp only [lp, bn, de, cT, dn, bM, cU]
 by_cases a : t < args.length
 ·rw [aD a]
 ·rw [aF a, cd (by omega)]
  split <;> simp
end
section
variable {P : Program} {E : Nat → Value} {W : World} {d : Option Nat} {x y : Operand} {tx tv ty : TypeId} {pos : String} {af : Array Edge} {g : Option (Nat × Bool)} {ms : List (String × TypeId)}
theorem sq {t tx : TypeId} {q} {v : Value} (dd : Nat) (a : P.underlying tx = some (.interface q)) (W : World) : (Op.equalIn (dd + 1) tx (.iface t v) .nilIface).run P W = .ok false W := by
 simp [Op.equalIn, aA a]
theorem sd {tx : TypeId} {q} (dd : Nat) (a : P.underlying tx = some (.interface q)) (W : World) : (Op.equalIn (dd + 1) tx .nilIface .nilIface).run P W = .ok true W := by
 simp [Op.equalIn, aA a]
theorem rz {tx e : TypeId} {k : Nat} {p : Addr} (dd : Nat) (c : P.underlying tx = some (.pointer e)) (a : ∀ w, (sizeOf e).run P w = .ok (k + 1) w) (W : World) : (Op.equalIn (dd + 1) tx (.pointer (some p)) (.pointer (some p))).run P W = .ok true W := by
 simp [Op.equalIn, aA c, a W, run_sameAddr_same]
theorem zi {q} {t : TypeId} {v : Value} (c : P.underlying tx = some (.interface q)) (h : eL E x = .iface t v) (i : eL E y = .nilIface) : fC P E ⟨d, .binOp .eql tx x y tv, ty, pos, af, g⟩ W (.bool false) W := by
 show (do let r ← (do eqGuard .eql tx x y (eL E x) (eL E y); binOp .eql tx (eL E x) (eL E y)); pure (.value r) : Sem Next).run P W = _
 rw [h, i]
 have a := sq (t := t) (v := v) 9999 c W
 simp [eqGuard, binOp, Op.equal, Op.maxDepth, a]
theorem yN {q} {v : Value} (c : P.underlying tx = some (.interface q)) (h : eL E x = .nilIface) (i : eL E (.const v) = .nilIface) : fC P E ⟨d, .binOp .eql tx x (.const v) tv, ty, pos, af, g⟩ W (.bool true) W := by
 show (do let r ← (do eqGuard .eql tx x (.const v) (eL E x) (eL E (.const v)); binOp .eql tx (eL E x) (eL E (.const v))); pure (.value r) : Sem Next).run P W = _
 rw [h, i]
 have a := sd 9999 c W
 simp [eqGuard, binOp, Op.equal, Op.maxDepth, a]
theorem uW {e : TypeId} {k : Nat} {p : Addr} (h : P.underlying tx = some (.pointer e)) (c : ∀ w, (sizeOf e).run P w = .ok (k + 1) w) (i : eL E x = .pointer (some p)) (j : eL E y = .pointer (some p)) : fC P E ⟨d, .binOp .neq tx x y tv, ty, pos, af, g⟩ W (.bool false) W := by
 show (do let r ← (do eqGuard .neq tx x y (eL E x) (eL E y); binOp .neq tx (eL E x) (eL E y)); pure (.value r) : Sem Next).run P W = _
 rw [i, j]
 have a := rz (p := p) 9999 h c W
 simp [eqGuard, binOp, Op.equal, Op.maxDepth, a]
theorem wm {t : TypeId} {v : Value} {u : TypeDesc} (a : P.underlying t = some u) (hu : ∀ q, u ≠ .interface q) (c : eL E x = .iface t v) : fC P E ⟨d, .typeAssert x tx t true, ty, pos, af, g⟩ W (.tuple #[v, .bool true]) W := by
 show (do let r ← Instr.typeAssert (eL E x) tx t true; pure (.value r) : Sem Next).run P W = _
 rw [c]
 unfold Instr.typeAssert
 simp only [aX, aA a, aJ]
 cases u <;> simp_all
end
def yf (n : Nat) (Q : List Deferred → gn) (e : Exit) (a : Act) (w : World) : Prop := ∃ D, wz D n (Q D) e a w
def vB (P : Program) (n : Nat) (c : Code) (Q : List Deferred → gn) (E : Nat → Value) (W : World) : Prop := ∀ a, Ag n a E → c.wp P (yf n Q) a W
def yp (P : Program) (n : Nat) (ops : Array Oper) (Q : List Deferred → gn) (l : List Oper) (E : Nat → Value) (W : World) : Prop := ∀ a, Ag n a E → wpList P ops (yf n Q) l a W
def Ah (P : Program) (fn : Func) (R : Ending → World → Prop) (D : List Deferred) : gn
 | .normal, E, W | .ret, E, W => ∀ tmps : Array Value, (∀ t, tmps.getD t undef = E t) → Leaves P fn tmps R D .returning W
 | .panic c, E, W => ∀ tmps : Array Value, (∀ t, tmps.getD t undef = E t) → Leaves P fn tmps R D (.panicking c) W
 | _, _, _ => False
section
variable {P : Program} {n : Nat} {Q : List Deferred → gn} {E : Nat → Value} {W : World} {c x y : Code} {ops : Array Oper} {rest : List Oper} {o : Oper}
theorem vA (h : CW P n x (fun e E W => e = .normal ∧ vB P n y Q E W) E W) : vB P n (.seq x y) Q E W := fun a i =>
 wp_seq (dq (h a i) (fun e g k h => by
  cases e with
  | normal => obtain ⟨E', d, _, j⟩ := h; exact j g d
  | panic c => exact absurd h.2.1 (by simp)
  | outgrown => exact h.elim
  | _ => obtain ⟨E', d, h1, _⟩ := h; cases h1))
theorem zL (h : vB P n x (fun D => gS (fun E W => pR D P n y (Q D) E W) (Q D)) E W) : vB P n (.seq x y) Q E W := fun a g =>
 wp_seq (dq (h a g) (fun e d j ⟨D, h⟩ => by
  cases e with
  | normal => obtain ⟨E', c, i⟩ := h; exact dq (i d c) (fun e a w h => ⟨D, h⟩)
  | _ => exact ⟨D, h⟩))
theorem wC {id : Nat} {l : List Oper} (h : yp P n l.toArray Q l E W) : vB P n (.region id l.toArray false) Q E W := fun a c => wp_region_lit (h a c)
theorem Au {dd : Nat} {v : Value} (hw : gE n ops E o) (g : o.dst = some dd) (i : dd < n) (d : fC P E o W v W) (h : yp P n ops Q rest (gb E dd v) W) : yp P n ops Q (o :: rest) E W := fun a c => by
 unfold wpList
 rw [aD (hw.of c)]
 refine .inl ?_
 unfold Oper.wp
 unfold fC at d
 rw [c.eval, d, cq, g]
 exact h _ (c.put i v)
theorem wT {d : Deferred} (hw : gE n ops E o) (g : o.dst = none) (i : (execOp (eL E) o).run P W = .ok (.defer d) W) (h : Q [d] .normal E W) : yp P n ops Q [o] E W := fun a c => by
 unfold wpList
 rw [aD (hw.of c)]
 refine .inl ?_
 unfold Oper.wp
 rw [c.eval, i, Oper.upon_defer, g]
 exact wpList_nil ⟨[d], E, ⟨c.1, by simp [Act.put, c.2.1], c.2.2⟩, h⟩
theorem ux {f : FuncId} {fn : Func} {c : Code} {args : List Value} {w : World} {R : Ending → World → Prop} (k : P.funcs[f]? = some fn) (j : fn.body = some c) (o : fn.ntmps = n) (i : args.length ≤ n) (h : vB P n c (fun D => Ah P fn R D) (lp args) w) : Calls P f args.toArray w R := by
 refine calls_of_wp_defers k j (dq (h _ (uJ o i)) (fun e a p ⟨D, g⟩ => ?_))
 cases e with
 | normal => obtain ⟨E, d, h⟩ := g; show Leaves _ _ _ _ a.defers _ _; rw [d.2.1]; exact h _ d.2.2
 | ret => obtain ⟨E, d, h⟩ := g; show Leaves _ _ _ _ a.defers _ _; rw [d.2.1]; exact h _ d.2.2
 | exit id => obtain ⟨E, d, h⟩ := g; exact h.elim
 | goto l => obtain ⟨E, d, h⟩ := g; exact h.elim
 | panic c => show Leaves _ _ _ _ a.defers _ _; rw [g.1]; exact g.2.2 _ (fun _ => rfl)
 | outgrown => exact g.elim
theorem xp {d : Option Nat} {ty : TypeId} {pos : String} {af : Array Edge} {g : Option (Nat × Bool)} {f : FuncId} {fv : Operand} {ax : Array Operand} {ats : Array TypeId} {caps : Array Value} {args : List Value} (h : eL E fv = .func (.func f) #[] caps) (c : ax.map (eL E) ++ (#[] : Array Value) = args.toArray) : (execOp (eL E) ⟨d, .defer ⟨.value fv, ax, ats⟩, ty, pos, af, g⟩).run P W = .ok (.defer ⟨.fn (.func f) caps, args.toArray⟩) W := by
 show (do pure (.defer (← resolve (eL E) ⟨.value fv, ax, ats⟩ ty)) : Sem Next).run P W = _
 have a : ax.map (eL E) = args.toArray := by simpa using c
 simp [resolve, Deferred.ofValue, h, a]
theorem ud {fn : Func} {R : Ending → World → Prop} {k : FuncId} {ax : Array Value} {u : FrameMode} {X : World → Prop} (hu : u ≠ .run) (he : ∀ args w, (callFunc k args).run P w = .ok (.enter k args) w) (c : CallsD P k ax u W fun e a W' => e = .returned (.tuple #[]) ∧ settle a = .returning ∧ X W') (h : ∀ W', X W' → lo P fn R .ret E W') (tmps : Array Value) (i : ∀ t, tmps.getD t undef = E t) : Leaves P fn tmps R [⟨.fn (.func k) #[], ax⟩] u W :=
 leaves_cons hu (by simp [invoke, he]) (CallsD.mono c (by
  rintro e a W' ⟨rfl, g, n⟩
  obtain ⟨v, j, d⟩ := h W' n
  show Leaves _ _ _ _ [] (settle a) _
  rw [g]
  exact ⟨v, j _ i, d⟩))
end
theorem ji.form {κ γ : Type} {kenc : κ → Value} {Q : Value → γ → List (Nat × Obj) → Prop} {μ : eV} {v : Value} {l : List (κ × γ)} (h : ji kenc Q μ v l) : ∃ m, v = .map m := by
 obtain ⟨a, R, h, _⟩ := h
 obtain ⟨m, rfl⟩ := h.form
 exact ⟨_, rfl⟩
theorem ji.AU {κ γ : Type} {kenc : κ → Value} {Q : Value → γ → List (Nat × Obj) → Prop} {μ : eV} {v : Value} {l : List (κ × γ)} (h : ji kenc Q μ v l) : ∃ a : List (κ × (Value × γ)), a.map (fun p => (p.1, p.2.2)) = l ∧ lq kenc (fun x => x.1) μ v a := by
 obtain ⟨q, R, ⟨k, n, rfl, ⟨m, es, clock, rfl, rfl, c⟩, j⟩, i⟩ := h
 obtain ⟨a, d, g, o⟩ := j.zip
 refine ⟨a, g, .inr ⟨m, es, clock, rfl, i _ _ (by simp), ⟨?_, c.born, c.lt⟩⟩⟩
 rw [c.oL, ← d]; simp
theorem xc {β γ : Type} {a : List (ByteArray × β)} {l : List (ByteArray × γ)} {f : β → γ} (h : a.map (fun p => (p.1, f p.2)) = l) : ni a = ni l := by
 subst h
 unfold ni
 have e : (a.map (fun p => (p.1, f p.2))).map (·.1) = a.map (·.1) := by rw [bP]; rfl
 simp only [e, cQ]
 have : (∀ p ∈ a.map (fun p => (p.1, f p.2)), p.1.size ≤ maxLen) ↔ (∀ p ∈ a, p.1.size ≤ maxLen) := ⟨fun h p hp => h _ (aP.2 ⟨p, hp, rfl⟩), fun h q c => by obtain ⟨p, hp, rfl⟩ := aP.1 c; exact h p hp⟩
 simp only [this]
def yv (dd : Bool) (w : World) (μ0 : eV) (L0 : List (Nat × Obj)) (K : Value → List (Nat × Obj) → eV → Prop) : Ending → World → Prop := fun e a => ∃ v L1 μ1, e = .returned v ∧ iF dd L0 L1 w a ∧ eT μ0 μ1 ∧ Lo (keys L0) w μ0 μ1 ∧ eT μ1 (iR a L1) ∧ K v L1 μ1
theorem wJ {dd : Bool} {P : Program} {f : FuncId} {args : List Value} {w : World} {μ0 : eV} {L0 : List (Nat × Obj)} {K : Value → List (Nat × Obj) → eV → Prop} (h : Calls P f args.toArray w (yv dd w μ0 L0 K)) : gm dd P f args w μ0 L0 K := h
theorem gm.mono {dd : Bool} {P : Program} {f : FuncId} {args : List Value} {w : World} {μ0 : eV} {L0 : List (Nat × Obj)} {K K' : Value → List (Nat × Obj) → eV → Prop} (h : gm dd P f args w μ0 L0 K) (hk : ∀ v L1 μ1, eT μ0 μ1 → K v L1 μ1 → K' v L1 μ1) : gm dd P f args w μ0 L0 K' :=
 bi h fun _ _ ⟨v, L1, μ1, h1, c, a, d, g, i⟩ => ⟨v, L1, μ1, h1, c, a, d, g, hk _ _ _ a i⟩
theorem fc.mono {R : Type} {dd : Bool} {P : Program} {f : FuncId} {args : List Value} {w : World} {μ0 : eV} {L0 : List (Nat × Obj)} {s : Int ⊕ R} {K K' : R → Value → List (Nat × Obj) → eV → Prop} {X X' : Int → List PanicEntry → List (Nat × Obj) → eV → Prop} (h : fc dd P f args w μ0 L0 s K X) (hk : ∀ r v L1 μ1, K r v L1 μ1 → K' r v L1 μ1) (k : ∀ x c L1 μ1, X x c L1 μ1 → X' x c L1 μ1) : fc dd P f args w μ0 L0 s K' X' :=
 bi h fun e n h => by
  cases s with
  | inl x => obtain ⟨v, L1, μ1, h1, a, d, g, i, j⟩ := h; exact ⟨v, L1, μ1, h1, a, d, g, i, k _ _ _ _ j⟩
  | inr r => obtain ⟨v, L1, μ1, h1, a, d, g, i, j⟩ := h; exact ⟨v, L1, μ1, h1, a, d, g, i, hk _ _ _ _ j⟩
def yg {S : Type} (K : S → List (Nat × Obj) → eV → Prop) (X : Int → List (Nat × Obj) → eV → Prop) : Int ⊕ S → List (Nat × Obj) → eV → Prop
 | .inl x => X x
 | .inr r => K r
end Go.Proofs.Ytcafmokjkjcomaa
