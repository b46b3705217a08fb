/- a part of a proof of OutcomeGets -/
import Derived.WalkKit
import Derived.WalkLawsBesides
import Derived.Maps.AppendAt
import Derived.OrdersHeld
import Derived.Laws.IdiomStrings
import Derived.Maps.RangeRun
import Derived.Lib.BytesEntry
import Derived.Lib.Bytealg
import Derived.Laws.Externs
import Derived.ChangeKeysEq
import Derived.Deep.AppendSrc
set_option linter.all false
namespace Go.Proofs.YtbnbdigcbldfhaaGreat
open Go.RowKit
def aa := @Option.bind_some
def ae := @Bool.false_eq_true
def ah := @List.length_append
def ai := @if_neg
def aj := @if_pos
def ak := @Int.natCast_nonneg
def ap := @List.drop_length
def aq := @if_false
def ar := @run_underlying
def ay := @congrArg
def az := @Bool.and_eq_true
def aA := @List.length_cons
def aB := @List.mem_cons
def aC := @List.append_assoc
def aD := @if_true
def aF := @List.mem_singleton
def aH := @List.getElem?_eq_some_iff
def aI := @List.mem_append
def aK := @Bool.eq_iff_iff
def aM := @Nat.le_refl
def aN := @Result.andThen_ok
def aO := @beq_self_eq_true
def aQ := @List.map_cons
def aR := @List.mem_map
def aS := @List.nodup_append
def aU := @Bool.not_true
def aW := @List.mem_append_left
def aX := @List.eq_nil_of_length_eq_zero
def aY := @Nat.lt_succ_self
def aZ := @Sem.run_bind
def bd := @Nat.mul_le_mul_right
def bi := @List.map_append
def bk := @decide_eq_true_eq
def bo := @Nat.add_mul
def bp := @List.append_nil
def bq := @List.getElem?_eq_getElem
def bt := @List.nil_append
def bw := @Calls.mono
def bx := @List.length_take
def bB := @List.cons.injEq
def bE := @Array.getElem?_eq_some_iff
def bF := @List.cons_append
def bG := @List.length_nil
def bH := @List.size_toArray
def bK := @List.Perm.append_left
def bL := @Array.length_toList
def bM := @Array.getD_eq_getD_getElem?
def bN := @List.take_of_length_le
def bO := @Nat.min_eq_left
def bP := @Bool.not_false
def bQ := @Sem.run_pure
def bR := @List.getElem?_eq_none
def bT := @Array.getElem?_toList
def bU := @List.mem_append_right
def bV := @Addr.add_lit
def bW := @Nat.zero_add
def bY := @List.length_drop
def bZ := @List.not_mem_nil
def cd := @Bool.not_eq_true
def cg := @List.getElem?_map
def cn := @Nat.le_trans
def cq := @List.getElem?_drop
def ct := @List.getElem?_take
def cu := @List.nodup_cons
def cv := @Option.map_some
def cw := @List.getElem?_take_of_lt
def cy := @List.flatten_cons
def cz := @List.ext_getElem?
def cA := @List.length_eq_zero_iff
def cE := @Nat.lt_of_lt_of_le
def cH := @Nat.eq_zero_or_pos
def cI := @List.mem_cons_of_mem
def cK := @decide_true
def cL := @Array.getElem?_modify
def cM := @List.perm_append_comm
def cO := @Bool.eq_false_or_eq_true
def cP := @List.length_map
def cU := @List.findIdx?_eq_some_iff_getElem
def cV := @Bool.true_and
def cW := @List.map_map
def cX := @List.Perm.refl
def cZ := @decide_false
def db := @List.mem_filter
def de := @List.singleton_append
def df := @List.eq_nil_or_concat
def dh := @List.forall_mem_cons
def dj := @Int.toNat_natCast
def dl := @Oper.upon_value
def dm := @Oper.upon_enter
def dt := @List.take_append
def du := @List.getElem_mem
def dw := @List.findIdx?_cons
def dx := @Array.getElem?_eq_getElem
def dy := @Classical.byContradiction
def dz := @Bool.or_eq_true
def dB := @List.getElem?_set
def dE := @bne_self_eq_false
def dF := @DataW.trod_struct
def dG := @Nat.add_assoc
def dI := @List.all_cons
def dJ := @ByteArray.toList_eq
def dK := @List.perm_middle
def dM := @List.any_eq_true
def dN := @List.map_nil
def dP := @List.pairwise_cons
def dT := @Array.getElem?_append
def dU := @List.getElem?_toArray
def dV := @List.take_append_drop
def dW := @List.length_mergeSort
def dX := @List.pairwise_map
def dZ := @of_decide_eq_true
def ec := @List.flatMap_cons
def ed := @Oper.upon_skip
def ee := @cell_of_row
def ei := @List.getElem?_append
def ej := @List.getElem?_append_right
def ek := @List.getD_eq_getElem?_getD
def eo := @List.take_take
def ep := @Nat.eq_of_mul_eq_mul_right
def er := @or_false
def eu := @Nat.mul_le_mul
def ev := @and_true
def ew := @List.all_eq_true
def eC := @List.findIdx?_eq_none_iff
def eE := @List.Sublist.append
def eF := @List.Perm.nodup_iff
def eG := @List.flatten_append
def eH := @Array.getElem?_replicate
def eJ := @wp_mono
def eO := @decide_eq_false
def eP := @beq_iff_eq
def eQ := @List.map_mergeSort
def fc := @run_equalIn_struct
def fg := @Nat.zero_le
def fh := @List.getElem?_cons_zero
def fi := @List.pairwise_mergeSort
def fl := @List.drop_take
def fp := @Function.comp_def
def fq := @List.findIdx?_map
def ft := @Option.some.injEq
def fu := @List.Perm.append_right
def fw := @List.take_left
def fx := @getElem!_pos
def fM := @Nat.div_lt_iff_lt_mul
def fN := @List.length_replicate
def fO := @Array.getElem?_mapIdx
def fP := @List.length_filter_le
def fQ := @List.mem_flatten
def fR := @Option.getD_some
def fV := @List.mem_flatMap
def fW := @Int.mul_le_mul_of_nonneg_right
def gb := @List.sum_cons
def gd := @List.pairwise_append
def gf := @List.findIdx?_append
def gj := @Nat.pow_le_pow_right
def gk := @List.length_set
def gn := @run_callFunc_extern
def gp := @List.mergeSort_perm
def gq := @List.flatMap_append
def gr := @List.take_length_add_append
def gu := @List.perm_append_comm_assoc
def gB := @run_loadCells_list
def gC := @grownCap_le_maxLen
def gD := @List.map_replicate
def gS := @UInt8.toNat_lt
def gT := @eq_iff_iff
def gU := @Bool.and_assoc
def gV := @Nat.le_succ
def gW := @run_storeCells_at
def gX := @Int.le_refl
def ig := @UInt8.ofNat_toNat
def ij := @ByteArray.ext
def iE := @Bool.false_or
def iG := @Nat.add_comm
def iH := @Nat.add_zero
def iP := @eq_comm
def iQ := @Int.le_of_lt
def iR := @List.find?_cons
def iS := @Nat.one_mul
def iT := @getD_set_ne
def iZ := @mem_ready
def mu (E : Nat → Value) (d : Nat) (v : Value) : Nat → Value := fun t => if t = d then v else E t
def ji (E : Nat → Value) : Operand → Value
 | .tmp t => E t
 | .const v => v
 | .global g => .pointer (some ⟨g, 0, none⟩)
 | .func f => .func (.func f) #[] #[]
def Ag (n : Nat) (a : Act) (E : Nat → Value) : Prop := a.tmps.size = n ∧ a.defers = [] ∧ ∀ t, a.tmps.getD t undef = E t
section
variable {n : Nat} {a : Act} {E : Nat → Value}
theorem Ag.eval (h : Ag n a E) : a.eval = ji E := by
 funext x
 cases x with
 | tmp t => exact h.2.2 t
 | const v => rfl
 | global g => rfl
 | func f => rfl
theorem Ag.put (h : Ag n a E) {d : Nat} (i : d < n) (v : Value) : Ag n (a.put (some d) v) (mu E d v) := by
 refine ⟨by simp [Act.put, h.1], h.2.1, fun t => ?_⟩
 have g := h.2.2 t
 simp only [Act.put, mu]
 by_cases c : t = d
 ·subst c
  simp [h.1, i]
 ·have : ¬ d = t := fun e => c e.symm
  rw [ai c, ← g]
  simp [bM, this]
theorem Ag.uD (h : Ag n a E) (v : Value) : Ag n (a.put none v) E := h
theorem Ag.yield (h : Ag n a E) {ops : Array Oper} {j t : Nat} {b : Bool} (d : (ops[j]?).bind (·.dst) = some t) (i : t < n) (k : E t = .bool b) : yielded ops a.tmps j = some b := by
 have c := h.2.2 t
 have g : a.tmps[t]? = some (E t) := by
  rw [← c]
  simp [bM, h.1, i]
 simp [yielded, d, g, k]
end
abbrev mP := Exit → (Nat → Value) → World → Prop
def E0 : Nat → Value := fun _ => undef
def lift (n : Nat) (Q : mP) : Exit → Act → World → Prop
 | .panic c, a, w => a.defers = [] ∧ Q (.panic c) E0 w
 | .outgrown, _, _ => False
 | e, a, w => ∃ E, Ag n a E ∧ Q e E w
theorem JI {n : Nat} {Q : mP} {c : List PanicEntry} {a : Act} {d : Option Nat} {v : Value} {w : World} (h : lift n Q (.panic c) (a.put d v) w) : lift n Q (.panic c) a w := by
 cases d <;> exact h
def CW (P : Program) (n : Nat) (c : Code) (Q : mP) (E : Nat → Value) (W : World) : Prop := ∀ a, Ag n a E → c.wp P (lift n Q) a W
def LW (P : Program) (n : Nat) (ops : Array Oper) (Q : mP) (l : List Oper) (E : Nat → Value) (W : World) : Prop := ∀ a, Ag n a E → wpList P ops (lift n Q) l a W
def pa (K : (Nat → Value) → World → Prop) (Q : mP) : mP
 | .normal, E, W => K E W
 | e, E, W => Q e E W
def vI (id : Nat) (Q : mP) : mP
 | .exit j, E, W => if j = id then Q .normal E W else Q (.exit j) E W
 | e, E, W => Q e E W
section
variable {P : Program} {n : Nat} {Q : mP} {E : Nat → Value} {W : World} {c x y : Code} {ops : Array Oper} {rest : List Oper} {o : Oper}
theorem Hz {Q' : mP} (h : CW P n c Q E W) (i : ∀ e E W, Q e E W → Q' e E W) : CW P n c Q' E W := fun a j =>
 eJ (h a j) (fun e _ _ h => by
  cases e with
  | panic c => exact ⟨h.1, i _ _ _ h.2⟩
  | outgrown => exact h
  | _ => obtain ⟨E', d, g⟩ := h; exact ⟨E', d, i _ _ _ g⟩)
theorem jo (h : CW P n x (pa (fun E W => CW P n y Q E W) Q) E W) : CW P n (.seq x y) Q E W := fun a g =>
 wp_seq (eJ (h a g) (fun e d j h => by
  cases e with
  | normal => obtain ⟨E', c, i⟩ := h; exact i d c
  | _ => exact h))
theorem jW (h : Q .normal E W) : CW P n .skip Q E W := fun _ a => wp_skip ⟨E, a, h⟩
theorem jN (h : Q .ret E W) : CW P n .ret Q E W := fun _ a => wp_ret ⟨E, a, h⟩
theorem mI {id : Nat} (h : Q (.exit id) E W) : CW P n (.exit id) Q E W := fun _ a => wp_exit ⟨E, a, h⟩
theorem kV {id : Nat} (h : CW P n c (vI id Q) E W) : CW P n (.block id c) Q E W := fun a k =>
 wp_block (eJ (h a k) (fun e m o h => by
  cases e with
  | exit j =>
   obtain ⟨E', d, g⟩ := h
   simp only [Exit.inBlock]
   simp only [vI] at g
   split at g
   ·rename_i i; rw [aj i]; exact ⟨E', d, g⟩
   ·rename_i i; rw [ai i]; exact ⟨E', d, g⟩
  | _ => exact h))
theorem Nj {co : Operand} {b : Bool} (d : ji E co = .bool b) (i : b = true → CW P n x Q E W) (g : b = false → CW P n y Q E W) : CW P n (.cond co x y) Q E W := fun a c => by
 refine wp_cond_split (t := b) (by rw [c.eval]; exact d) (fun h => i h a c) (fun h => g h a c)
theorem vm {co : Operand} (a : ji E co = .bool true) (h : CW P n x Q E W) : CW P n (.cond co x y) Q E W := Nj a (fun _ => h) (fun h => by cases h)
theorem oO {co : Operand} (a : ji E co = .bool false) (h : CW P n y Q E W) : CW P n (.cond co x y) Q E W := Nj a (fun h => by cases h) (fun _ => h)
theorem jk {id : Nat} {l : List Oper} (h : LW P n l.toArray Q l E W) : CW P n (.region id l.toArray false) Q E W := fun a c => wp_region_lit (h a c)
theorem jH (h : Q .normal E W) : LW P n ops Q [] E W := fun _ a => wpList_nil ⟨E, a, h⟩
theorem IM {P : Program} {c : Code} {Q : Exit → Act → World → Prop} {a : Act} {w : World} (I : Nat → Act → World → Prop) (m : Nat) (u : I m a w) (round : ∀ m a w, I m a w → c.wp P (Exit.then (fun p q => ∃ y, y < m ∧ I y p q) Q) a w) : (Code.loop c).wp P Q a w := by
 intro b k cs
 have key : ∀ m a w, I m a w → ∃ e p q, Q e p q ∧ Arrives P (lone (b.at a (.code c :: .inLoop c :: k)) cs w) b k cs e p q := by
  intro m
  induction m using Nat.strongRecOn with
  | _ m ih =>
   intro a w A
   obtain ⟨e, g, h, j, d⟩ := round m a w A b (.inLoop c :: k) cs
   cases e with
   | normal =>
    obtain ⟨y, z, n⟩ := j
    obtain ⟨t, s, v, o, i⟩ := ih y z g h n
    exact ⟨t, s, v, o, .of_steps (Steps.trans d (.one step_inLoop)) i⟩
   | exit id => exact ⟨_, g, h, j, .pass (x := .inLoop c) rfl (fun _ _ => .inl (by simp)) d⟩
   | goto l => exact ⟨_, g, h, j, .pass (x := .inLoop c) rfl (fun _ _ => .inl (by simp)) d⟩
   | ret => exact ⟨_, g, h, j, .pass (x := .inLoop c) rfl (fun _ _ => .inl (by simp)) d⟩
   | panic D => exact ⟨_, g, h, j, .pass (x := .inLoop c) rfl (fun _ _ => .inl (by simp)) d⟩
   | outgrown => exact ⟨_, g, h, j, .pass (x := .inLoop c) rfl (fun _ _ => .inl (by simp)) d⟩
 obtain ⟨e, p, q, j, d⟩ := key m a w u
 exact ⟨e, p, q, j, .of_steps (.one step_loop) d⟩
theorem ns (I : Nat → (Nat → Value) → World → Prop) (m : Nat) (d : I m E W) (round : ∀ m E W, I m E W → CW P n c (pa (fun E' W' => ∃ g, g < m ∧ I g E' W') Q) E W) : CW P n (.loop c) Q E W := fun a j =>
 IM (fun m a w => ∃ E, Ag n a E ∧ I m E w) m ⟨E, j, d⟩ (fun m a w ⟨E, j, p⟩ =>
  eJ (round m E w p a j) (fun e q s h => by
   cases e with
   | normal => obtain ⟨E', k, g, o, i⟩ := h; exact ⟨g, o, E', k, i⟩
   | _ => exact h))
def lV (n : Nat) (ops : Array Oper) (E : Nat → Value) (o : Oper) : Prop :=
 o.guard = none ∨ ∃ j want t, o.guard = some (j, want) ∧ (ops[j]?).bind (·.dst) = some t ∧ t < n ∧ E t = .bool want
theorem lV.of {a : Act} (h : lV n ops E o) (d : Ag n a E) : Region.wanted o (yielded ops a.tmps) = true := by
 rcases h with h | ⟨j, want, t, g, i, k, c⟩
 ·simp [Region.wanted, h]
 ·simp [Region.wanted, g, d.yield i k c]
theorem Oz {d : Nat} {v : Value} {W' : World} (hw : lV n ops E o) (g : o.dst = some d) (i : d < n) (j : (execOp (ji E) o).run P W = .ok (.value v) W') (h : LW P n ops Q rest (mu E d v) W') : LW P n ops Q (o :: rest) E W := fun a c => by
 unfold wpList
 rw [aj (hw.of c)]
 refine .inl ?_
 unfold Oper.wp
 rw [c.eval, j, dl, g]
 exact h _ (c.put i v)
theorem PA {W' : World} (hw : lV n ops E o) (d : o.dst = none) (g : (execOp (ji E) o).run P W = .ok .skip W') (h : LW P n ops Q rest E W') : LW P n ops Q (o :: rest) E W := fun a c => by
 unfold wpList
 rw [aj (hw.of c)]
 refine .inl ?_
 unfold Oper.wp
 rw [c.eval, g, ed, d]
 exact h _ (c.uD _)
theorem P2 {f : FuncId} {args : Array Value} {d : Nat} (hw : lV n ops E o) (i : o.dst = some d) (k : d < n) (m : (execOp (ji E) o).run P W = .ok (.enter f args) W) (h : Calls P f args W fun e g => ∃ v, e = .returned v ∧ LW P n ops Q rest (mu E d v) g) : LW P n ops Q (o :: rest) E W := fun a c => by
 unfold wpList
 rw [aj (hw.of c)]
 refine .inl ?_
 unfold Oper.wp
 rw [c.eval, m, dm]
 refine h.mono ?_
 rintro e g ⟨v, rfl, j⟩
 simp only [i]
 exact j _ (c.put k v)
theorem Tf {d j t : Nat} {want : Bool} (i : o.dst = some d) (p : d < n) (k : o.guard = some (j, want)) (m : (ops[j]?).bind (·.dst) = some t) (q : t < n) (g : E t = .bool (!want)) (h : LW P n ops Q rest (mu E d undef) W) : LW P n ops Q (o :: rest) E W := fun a c => by
 unfold wpList
 have s := c.yield m q g
 rw [ai (by simp [Region.wanted, k, s])]
 rw [i]
 exact h _ (c.put p _)
end
variable {dd : Bool}
abbrev jF := Nat → Option Obj
def hp (W : World) : jF := fun b => W.heap[b]?
def sC (dd : Bool) (a b : Nat) : Prop := dd = true → a ≤ b
theorem sC.of {dd : Bool} {a b : Nat} (h : a ≤ b) : sC dd a b := fun _ => h
theorem sC.trans {dd : Bool} {a b c : Nat} (h : sC dd a b) (k : sC dd b c) : sC dd a c := fun e => cn (h e) (k e)
structure Ex (dd : Bool) (w W : World) : Prop where
 os : W.os = w.os
 tape : W.tape = w.tape
 output : W.output = w.output
 drawn : sC dd w.drawn W.drawn
 size : w.heap.size ≤ W.heap.size
 ll : ∀ b, b < w.heap.size → W.heap[b]? = w.heap[b]?
theorem Ex.refl (w : World) : Ex dd w w := ⟨rfl, rfl, rfl, sC.of (aM _), aM _, fun _ _ => rfl⟩
theorem Ex.trans {a b c : World} (h : Ex dd a b) (k : Ex dd b c) : Ex dd a c :=
 ⟨k.os.trans h.os, k.tape.trans h.tape, k.output.trans h.output, sC.trans h.drawn k.drawn, cn h.size k.size, fun i hi => (k.ll i (cE hi h.size)).trans (h.ll i hi)⟩
theorem Ex.drew (w : World) : Ex dd w w.drew := ⟨rfl, rfl, rfl, sC.of (gV _), aM _, fun _ _ => rfl⟩
theorem Ex.alloc (w : World) (o : Obj) : Ex dd w (w.alloc o) := ⟨rfl, rfl, rfl, sC.of (aM _), by show w.heap.size ≤ (w.heap.push o).size; simp, fun k hk => Below.heap_alloc w o k hk⟩
theorem Ex.kI {w W : World} (h : Ex true w W) : Ex dd w W := ⟨h.os, h.tape, h.output, sC.of (h.drawn rfl), h.size, h.ll⟩
def jC (μ μ' : jF) : Prop := ∀ b o, μ b = some o → μ' b = some o
theorem jC.refl (μ : jF) : jC μ μ := fun _ _ h => h
theorem jC.trans {a b c : jF} (h : jC a b) (k : jC b c) : jC a c := fun x o d => k x o (h x o d)
structure ST (dd : Bool) (F : Nat → Prop) (w W : World) (μ : jF) (L : List (Nat × Obj)) : Prop where
 os : W.os = w.os
 tape : W.tape = w.tape
 output : W.output = w.output
 drawn : sC dd w.drawn W.drawn
 size : w.heap.size ≤ W.heap.size
 ll : ∀ b, b < w.heap.size → ¬ F b → W.heap[b]? = w.heap[b]?
 mem : ∀ b o, μ b = some o → W.heap[b]? = some o
 box : ∀ b o, (b, o) ∈ L → W.heap[b]? = some o ∧ μ b = none ∧ (w.heap.size ≤ b ∨ F b)
 nd : (L.map (·.1)).Nodup
def jT : Nat → Prop := fun _ => False
theorem ST.start (w : World) : ST dd jT w w (hp w) [] :=
 ⟨rfl, rfl, rfl, sC.of (aM _), aM _, fun _ _ _ => rfl, fun _ _ h => h, fun _ _ h => (by cases h), by simp⟩
section
variable {F : Nat → Prop} {w W W' : World} {μ μ' : jF} {L L' : List (Nat × Obj)}
theorem ST.ex (h : ST dd jT w W μ L) : Ex dd w W := ⟨h.os, h.tape, h.output, h.drawn, h.size, fun b a => h.ll b a (fun x => x)⟩
theorem Qe (W : World) (o : Obj) : (W.alloc o).heap[W.heap.size]? = some o := heap_alloc_new W o
theorem ng {W : World} {b : Nat} {o : Obj} (h : W.heap[b]? = some o) : b < W.heap.size := (bE.1 h).1
theorem ST.drew (h : ST dd F w W μ L) : ST dd F w W.drew μ L :=
 ⟨h.os, h.tape, h.output, sC.trans h.drawn (sC.of (gV _)), h.size, h.ll, h.mem, h.box, h.nd⟩
theorem ST.Ei (h : ST dd F w W μ L) {b : Nat} {o : Obj} (a : (b, o) ∈ L) : b < W.heap.size := ng (h.box b o a).1
theorem ST.alloc (h : ST dd F w W μ L) (o : Obj) : ST dd F w (W.alloc o) μ ((W.heap.size, o) :: L) := by
 refine ⟨h.os, h.tape, h.output, h.drawn, cn h.size (Ex.alloc (dd := true) W o).size, fun b a i => ?_, fun b c a => ?_, fun b c a => ?_, ?_⟩
 ·rw [(Ex.alloc (dd := true) W o).ll b (cE a h.size)]; exact h.ll b a i
 ·have := h.mem b c a
  rw [(Ex.alloc (dd := true) W o).ll b (ng this)]; exact this
 ·rcases aB.1 a with e | a
  ·cases e
   refine ⟨Qe W o, ?_, .inl h.size⟩
   cases hm : μ W.heap.size with
   | none => rfl
   | some x => have := ng (h.mem _ _ hm); omega
  ·obtain ⟨h1, d, g⟩ := h.box b c a
   exact ⟨by rw [(Ex.alloc (dd := true) W o).ll b (ng h1)]; exact h1, d, g⟩
 ·simp only [aQ, cu]
  refine ⟨fun hm => ?_, h.nd⟩
  obtain ⟨⟨b, c⟩, a, e⟩ := aR.1 hm
  have := h.Ei a
  simp at e
  omega
theorem ST.put {A B : List (Nat × Obj)} {b : Nat} {o n : Obj} (h : ST dd F w W μ (A ++ (b, o) :: B)) (u : W'.os = W.os ∧ W'.tape = W.tape ∧ W'.output = W.output ∧ W.drawn ≤ W'.drawn ∧ W'.heap.size = W.heap.size) (d : ∀ k, k ≠ b → W'.heap[k]? = W.heap[k]?) (v : W'.heap[b]? = some n) : ST dd F w W' μ (A ++ (b, n) :: B) := by
 obtain ⟨h1, p, q, s, t⟩ := u
 have c := h.box b o (by simp)
 have a := h.nd
 simp only [bi, aQ] at a
 have g : ∀ x o, (x, o) ∈ A → x ≠ b := fun x o j e => by
  subst e
  have := (aS.1 a).2.2 x (aR.2 ⟨_, j, rfl⟩) x (by simp)
  exact this rfl
 have i : ∀ x o, (x, o) ∈ B → x ≠ b := fun x o j e => by
  subst e
  have := (cu.1 (aS.1 a).2.1).1
  exact this (aR.2 ⟨_, j, rfl⟩)
 refine ⟨h1.trans h.os, p.trans h.tape, q.trans h.output, sC.trans h.drawn (sC.of s), by rw [t]; exact h.size, fun k hk m => ?_, fun k x hk => ?_, fun k x hk => ?_, by simpa using a⟩
 ·rw [d k (fun e => by subst e; rcases c.2.2 with h | h; omega; exact m h)]
  exact h.ll k hk m
 ·rw [d k (fun e => by subst e; rw [c.2.1] at hk; cases hk)]
  exact h.mem k x hk
 ·rcases aI.1 hk with hk | hk
  ·rw [d k (g k x hk)]; exact h.box k x (by simp [hk])
  ·rcases aB.1 hk with e | hk
   ·cases e; exact ⟨v, c.2⟩
   ·rw [d k (i k x hk)]; exact h.box k x (by simp [hk])
def Lo (F : Nat → Prop) (w : World) (μ μ' : jF) : Prop := ∀ b, b < w.heap.size → ¬ F b → μ' b = μ b
theorem Lo.refl {F : Nat → Prop} {w : World} {μ : jF} : Lo F w μ μ := fun _ _ _ => rfl
theorem Lo.trans {F : Nat → Prop} {w : World} {a b c : jF} (h : Lo F w a b) (k : Lo F w b c) : Lo F w a c := fun x g d => (k x g d).trans (h x g d)
def grow (μ : jF) (W W' : World) : jF := fun b => if b < W.heap.size then μ b else W'.heap[b]?
theorem ST.Dj (h : ST dd F w W μ L) {b : Nat} {o : Obj} (a : μ b = some o) : b < W.heap.size := ng (h.mem b o a)
theorem ST.call (h : ST dd F w W μ L) (c : Ex dd W W') : ST dd F w W' (grow μ W W') L := by
 refine ⟨c.os.trans h.os, c.tape.trans h.tape, c.output.trans h.output, sC.trans h.drawn c.drawn, cn h.size c.size, fun b a j => ?_, fun b o a => ?_, fun b o a => ?_, h.nd⟩
 ·rw [c.ll b (cE a h.size)]; exact h.ll b a j
 ·unfold grow at a
  split at a
  ·rename_i d; rw [c.ll b d]; exact h.mem b o a
  ·exact a
 ·obtain ⟨h1, g, i⟩ := h.box b o a
  exact ⟨by rw [c.ll b (ng h1)]; exact h1, by unfold grow; rw [aj (ng h1)]; exact g, i⟩
theorem ST.O8 (h : ST dd F w W μ L) (W' : World) : jC μ (grow μ W W') := fun b o a => by
 unfold grow; rw [aj (h.Dj a)]; exact a
theorem ST.kI (h : ST dd F w W μ' L) (c : jC μ μ') : ST dd F w W μ L :=
 ⟨h.os, h.tape, h.output, h.drawn, h.size, h.ll, fun b o a => h.mem b o (c b o a), fun b o a => by
  obtain ⟨h1, d, g⟩ := h.box b o a
  refine ⟨h1, ?_, g⟩
  cases hm : μ b with
  | none => rfl
  | some x => (have := c b x hm; rw [d] at this; cases this), h.nd⟩
theorem ST.Fi (h : ST dd F w W μ L) (a : Ex dd W W') : ST dd F w W' μ L := (h.call a).kI (h.O8 W')
theorem ST.ju (h : ST dd F w W μ L) : jC μ (hp W) := h.mem
def Mj (μ : jF) (b : Nat) (o : Obj) : jF := fun k => if k = b then some o else μ k
theorem ST.HP {A B : List (Nat × Obj)} {b : Nat} {o : Obj} (h : ST dd F w W μ (A ++ (b, o) :: B)) : ST dd F w W (Mj μ b o) (A ++ B) := by
 have d := h.box b o (by simp)
 have a := h.nd
 simp only [bi, aQ] at a
 have i : ∀ x y, (x, y) ∈ A ++ B → x ≠ b := fun x y c e => by
  subst e
  rcases aI.1 c with c | c
  ·exact (aS.1 a).2.2 x (aR.2 ⟨_, c, rfl⟩) x (by simp) rfl
  ·exact (cu.1 (aS.1 a).2.1).1 (aR.2 ⟨_, c, rfl⟩)
 refine ⟨h.os, h.tape, h.output, h.drawn, h.size, h.ll, fun k x hk => ?_, fun k x hk => ?_, ?_⟩
 ·unfold Mj at hk
  split at hk
  ·rename_i e; cases hk; rw [e]; exact d.1
  ·exact h.mem k x hk
 ·have g : (k, x) ∈ A ++ (b, o) :: B := by
   rcases aI.1 hk with h | h <;> simp [h]
  obtain ⟨h1, j, m⟩ := h.box k x g
  exact ⟨h1, by unfold Mj; rw [ai (i k x hk)]; exact j, m⟩
 ·have : (A ++ B).Sublist (A ++ (b, o) :: B) := eE (List.Sublist.refl A) (List.sublist_cons_self _ _)
  exact List.Nodup.sublist (this.map _) h.nd
theorem ST.Hy {A B : List (Nat × Obj)} {b : Nat} {o : Obj} (h : ST dd F w W μ (A ++ (b, o) :: B)) : jC μ (Mj μ b o) := fun k x hk => by
 unfold Mj
 split
 ·rename_i e; subst e; rw [(h.box k o (by simp)).2.1] at hk; cases hk
 ·exact hk
theorem ST.ON {A B : List (Nat × Obj)} {b : Nat} {o : Obj} (h : ST dd F w W μ (A ++ (b, o) :: B)) : Lo F w μ (Mj μ b o) := fun k hk c => by
 refine ai (fun e => ?_)
 subst e
 rcases (h.box k o (by simp)).2.2 with a | a
 ·omega
 ·exact c a
theorem ST.drop {A B : List (Nat × Obj)} {p : Nat × Obj} (h : ST dd F w W μ (A ++ p :: B)) : ST dd F w W μ (A ++ B) :=
 (h.HP (b := p.1) (o := p.2)).kI h.Hy
end
abbrev qa (α : Type) := jF → List Value → α → Prop
def Sl {α : Type} (R : qa α) (k : Nat) (μ : jF) (v : Value) (l : List α) : Prop :=
 ∃ A c, v = .slice A l.length c ∧ l.length ≤ c ∧ c ≤ maxLen ∧ (0 < l.length → ∃ b off cs T fr, A = some ⟨b, off, none⟩ ∧ μ b = some (.cells cs T fr) ∧
  ∀ i x, l[i]? = some x → ∃ ys, ys.length = k ∧ R μ ys x ∧ ∀ j y, ys[j]? = some y → cs[off + i * k + j]? = some y)
def At (μ : jF) (v : Value) (ys : List Value) : Prop :=
 ∃ b off cs T fr, v = .pointer (some ⟨b, off, none⟩) ∧ μ b = some (.cells cs T fr) ∧ ∀ j y, ys[j]? = some y → cs[off + j]? = some y
def Fr (B : Nat) (v : Value) : Prop := ∀ b, v.ownBlock = some b → B ≤ b
def GP {α : Type} (R : qa α) : Prop := ∀ μ μ' ys x, jC μ μ' → R μ ys x → R μ' ys x
def Pl {α : Type} (enc : α → List Value) : qa α := fun _ ys x => ys = enc x
theorem Pl.mono {α : Type} (enc : α → List Value) : GP (Pl enc) := fun _ _ _ _ _ h => h
theorem Sl.mono {α : Type} {R : qa α} (t : GP R) {k : Nat} {μ μ' : jF} {v : Value} {l : List α} (h : Sl R k μ v l) (d : jC μ μ') : Sl R k μ' v l := by
 obtain ⟨A, c, h1, g, j, m⟩ := h
 refine ⟨A, c, h1, g, j, fun u => ?_⟩
 obtain ⟨b, off, cs, T, fr, n, o, p⟩ := m u
 exact ⟨b, off, cs, T, fr, n, d _ _ o, fun i x w => let ⟨ys, q, s, a⟩ := p i x w; ⟨ys, q, t _ _ _ _ d s, a⟩⟩
theorem At.mono {μ μ' : jF} {v : Value} {ys : List Value} (h : At μ v ys) (d : jC μ μ') : At μ' v ys := by
 obtain ⟨b, off, cs, T, fr, h1, a, c⟩ := h
 exact ⟨b, off, cs, T, fr, h1, d _ _ a, c⟩
theorem Sl.len {α : Type} {R : qa α} {k : Nat} {μ : jF} {v : Value} {l : List α} (h : Sl R k μ v l) : l.length ≤ 9223372036854775807 := by
 obtain ⟨A, c, h1, d, a, g⟩ := h
 unfold maxLen at a
 omega
theorem Sl.nil {α : Type} (R : qa α) (k : Nat) (μ : jF) : Sl R k μ (.slice none 0 0) [] := ⟨none, 0, rfl, aM _, by decide, fun h => absurd h (by simp)⟩
theorem Fr.mono {B B' : Nat} {v : Value} (h : Fr B v) (a : B' ≤ B) : Fr B' v := fun b c => cn a (h b c)
theorem Fr.nil (B : Nat) : Fr B (.slice none 0 0) := fun b a => by simp [Value.ownBlock] at a
end Go.Proofs.YtbnbdigcbldfhaaGreat
namespace Go.Proofs.YtbnbdigcbldfhaaGreat
open Go.RowKit
variable {dd : Bool}
section
variable {P : Program} {n : Nat} {Q : mP} {E : Nat → Value} {W : World} {ops : Array Oper} {rest : List Oper}
 {d : Option Nat} {ty : TypeId} {pos : String} {af : Array Edge} {g : Option (Nat × Bool)}
 {F : Nat → Prop} {w : World} {μ : jF} {L : List (Nat × Obj)}
def kA (P : Program) (E : Nat → Value) (o : Oper) (W : World) (v : Value) (W' : World) : Prop := (execOp (ji E) o).run P W = .ok (.value v) W'
theorem HI {o : Oper} {dd : Nat} {v : Value} (hw : lV n ops E o) (a : o.dst = some dd) (c : dd < n) (d : kA P E o W v W) (h : LW P n ops Q rest (mu E dd v) W) : LW P n ops Q (o :: rest) E W := Oz hw a c d h
theorem jl {x : Operand} {v : Value} (a : ji E x = v) : kA P E ⟨d, .move x, ty, pos, af, g⟩ W v W := by rw [← a]; rfl
theorem lO {x : Operand} {v : Value} (a : ji E x = v) : kA P E ⟨d, .assign x, ty, pos, af, g⟩ W v W := by rw [← a]; rfl
theorem jz {c x y : Operand} {v : Value} (a : ji E c = .bool true) (h : ji E x = v) : kA P E ⟨d, .pick c x y, ty, pos, af, g⟩ W v W := by
 show (do pure (.value (if ← asBool (ji E c) then ji E x else ji E y)) : Sem Next).run P W = _
 rw [a, ← h]; simp [asBool]
theorem jA {c x y : Operand} {v : Value} (a : ji E c = .bool false) (h : ji E y = v) : kA P E ⟨d, .pick c x y, ty, pos, af, g⟩ W v W := by
 show (do pure (.value (if ← asBool (ji E c) then ji E x else ji E y)) : Sem Next).run P W = _
 rw [a, ← h]; simp [asBool]
theorem zY {x : Operand} {i : Nat} {vs : Array Value} {v : Value} (c : ji E x = .tuple vs) (a : vs[i]? = some v) : kA P E ⟨d, .extract x i, ty, pos, af, g⟩ W v W := by
 show (do pure (.value (← Instr.extract (ji E x) i)) : Sem Next).run P W = _
 rw [c]; simp [Instr.extract, a]
theorem lM {u : TypeId} {x : Operand} {b : Bool} (a : ji E x = .bool b) : kA P E ⟨d, .unOp .not u x, ty, pos, af, g⟩ W (.bool !b) W := by
 show (do pure (.value (← Op.unary .not (ji E x))) : Sem Next).run P W = _
 rw [a]; simp [Op.unary]
theorem MX {fn : Fn} {first caps : Array Operand} {v : Value} (a : .func fn (first.map (ji E)) (caps.map (ji E)) = v) : kA P E ⟨d, .makeFunc fn first caps, ty, pos, af, g⟩ W v W := by
 show (do pure (.value (← Instr.makeFunc fn (first.map (ji E)) (caps.map (ji E)))) : Sem Next).run P W = _
 rw [← a]; simp [Instr.makeFunc]
def I6 (k : IntKind) (op : BinOp) (a b : Int) : Option Value :=
 match op with
 | .eql => some (.bool (a == b))
 | .neq => some (.bool (a != b))
 | .lss => some (.bool (decide (a < b)))
 | .leq => some (.bool (decide (a ≤ b)))
 | .gtr => some (.bool (decide (a > b)))
 | .geq => some (.bool (decide (a ≥ b)))
 | .add => some (.int k (k.wrap (a + b)))
 | .sub => some (.int k (k.wrap (a - b)))
 | .mul => some (.int k (k.wrap (a * b)))
 | _ => none
theorem kv {op : BinOp} {tx tv : TypeId} {x y : Operand} {k : IntKind} {a b : Int} {v : Value} (h : ji E x = .int k a) (i : ji E y = .int k b) (c : I6 k op a b = some v) :
  kA P E ⟨d, .binOp op tx x y tv, ty, pos, af, g⟩ W v W := by
 show (do let r ← (do eqGuard op tx x y (ji E x) (ji E y); binOp op tx (ji E x) (ji E y)); pure (.value r) : Sem Next).run P W = _
 rw [h, i]
 cases op <;> simp [I6] at c <;> subst c <;> simp [eqGuard, binOp, Op.intCmp, Op.intArith]
def QL (op : BinOp) (a b : ByteArray) : Option Value :=
 match op with
 | .eql => some (.bool (a.toList == b.toList))
 | .neq => some (.bool !(a.toList == b.toList))
 | .lss => some (.bool (Op.bytesLess a.toList b.toList))
 | .leq => some (.bool (Op.bytesLess a.toList b.toList || a.toList == b.toList))
 | .gtr => some (.bool !(Op.bytesLess a.toList b.toList || a.toList == b.toList))
 | .geq => some (.bool !(Op.bytesLess a.toList b.toList))
 | _ => none
def vv (a b : ByteArray) : Option ByteArray := if ((a.size + b.size : Nat) : Int) > IntKind.i64.max then none else some (a ++ b)
theorem sQ {op : BinOp} {tx tv : TypeId} {x y : Operand} {a b : ByteArray} {v : Value} (h : ji E x = .string a) (i : ji E y = .string b) (c : QL op a b = some v) :
  kA P E ⟨d, .binOp op tx x y tv, ty, pos, af, g⟩ W v W := by
 show (do let r ← (do eqGuard op tx x y (ji E x) (ji E y); binOp op tx (ji E x) (ji E y)); pure (.value r) : Sem Next).run P W = _
 rw [h, i]
 cases op <;> simp [QL] at c <;> subst c <;> simp [eqGuard, binOp, Op.stringOp]
theorem vl {tx tv : TypeId} {x y : Operand} {a b r : ByteArray} (h : ji E x = .string a) (i : ji E y = .string b) (c : vv a b = some r) :
  kA P E ⟨d, .binOp .add tx x y tv, ty, pos, af, g⟩ W (.string r) W := by
 show (do let r ← (do eqGuard .add tx x y (ji E x) (ji E y); binOp .add tx (ji E x) (ji E y)); pure (.value r) : Sem Next).run P W = _
 rw [h, i]
 simp only [vv] at c
 split at c
 ·cases c
 ·rename_i hle; cases c; simp [eqGuard, binOp, Op.stringOp]; simpa using hle
theorem KM {op : BinOp} {tx tv : TypeId} {x y : Operand} {a b : Bool} (h : P.underlying tx = some .bool) (i : ji E x = .bool a) (j : ji E y = .bool b) (c : op = .neq) :
  kA P E ⟨d, .binOp op tx x y tv, ty, pos, af, g⟩ W (.bool (a != b)) W := by
 subst c
 show (do let r ← (do eqGuard .neq tx x y (ji E x) (ji E y); binOp .neq tx (ji E x) (ji E y)); pure (.value r) : Sem Next).run P W = _
 rw [i, j]
 simp [eqGuard, binOp, Op.equal, Op.maxDepth, run_equalIn_bool' W 9999 tx a b h, bne]
theorem uL {tx tv : TypeId} {x y : Operand} {a b : Array Value} {r : Bool} (i : ji E x = .agg a) (j : ji E y = .agg b) (c : ∀ W, (eqGuard .eql tx x y (.agg a) (.agg b)).run P W = .ok () W) (h : ∀ W, (binOp .eql tx (.agg a) (.agg b)).run P W = .ok (.bool r) W) : kA P E ⟨d, .binOp .eql tx x y tv, ty, pos, af, g⟩ W (.bool r) W := by
 show (do let r ← (do eqGuard .eql tx x y (ji E x) (ji E y); binOp .eql tx (ji E x) (ji E y)); pure (.value r) : Sem Next).run P W = _
 rw [i, j]; simp [c W, h W]
theorem B3 {tx tv : TypeId} {x y : Operand} {a b : Array Value} {r : Bool} (i : ji E x = .agg a) (j : ji E y = .agg b) (c : ∀ W, (eqGuard .neq tx x y (.agg a) (.agg b)).run P W = .ok () W) (h : ∀ W, (binOp .neq tx (.agg a) (.agg b)).run P W = .ok (.bool r) W) : kA P E ⟨d, .binOp .neq tx x y tv, ty, pos, af, g⟩ W (.bool r) W := by
 show (do let r ← (do eqGuard .neq tx x y (ji E x) (ji E y); binOp .neq tx (ji E x) (ji E y)); pure (.value r) : Sem Next).run P W = _
 rw [i, j]; simp [c W, h W]
theorem BI {t e : TypeId} (dd : Nat) (c : P.underlying t = some (.pointer e)) (a : Option Addr) (W : World) : (Op.equalIn (dd + 1) t (.pointer a) (.pointer none)).run P W = .ok a.isNone W := by
 cases a <;> simp [Op.equalIn, ar c]
theorem qD {tx tv e : TypeId} {x y : Operand} {a : Option Addr} (h : P.underlying tx = some (.pointer e)) (i : ji E x = .pointer a) (j : ji E y = .pointer none) :
  kA P E ⟨d, .binOp .eql tx x y tv, ty, pos, af, g⟩ W (.bool a.isNone) W := by
 show (do let r ← (do eqGuard .eql tx x y (ji E x) (ji E y); binOp .eql tx (ji E x) (ji E y)); pure (.value r) : Sem Next).run P W = _
 rw [i, j]
 have c := BI 9999 h a W
 simp [eqGuard, binOp, Op.equal, show Op.maxDepth = 9999 + 1 from rfl, c]
theorem AL {tx tv e : TypeId} {x y : Operand} {a : Option Addr} (h : P.underlying tx = some (.pointer e)) (i : ji E x = .pointer a) (j : ji E y = .pointer none) :
  kA P E ⟨d, .binOp .neq tx x y tv, ty, pos, af, g⟩ W (.bool !a.isNone) W := by
 show (do let r ← (do eqGuard .neq tx x y (ji E x) (ji E y); binOp .neq tx (ji E x) (ji E y)); pure (.value r) : Sem Next).run P W = _
 rw [i, j]
 have c := BI 9999 h a W
 simp [eqGuard, binOp, Op.equal, show Op.maxDepth = 9999 + 1 from rfl, c]
theorem nK {x : Operand} {t : TypeId} {s : ByteArray} (a : P.underlying t = some .string) (c : ji E x = .string s) : kA P E ⟨d, .call ⟨.builtin .len, #[x], #[t]⟩, ty, pos, af, g⟩ W (.int .i64 s.size) W := by
 show (do let d ← resolve (ji E) ⟨.builtin .len, #[x], #[t]⟩ ty; invoke d.target d.args : Sem Next).run P W = _
 simp [resolve, invoke, builtin, Builtin.len_, ar a, c, goInt]
theorem zw {x : Operand} {t e : TypeId} {A : Option Addr} {l c : Nat} (a : P.underlying t = some (.slice e)) (h : ji E x = .slice A l c) : kA P E ⟨d, .call ⟨.builtin .len, #[x], #[t]⟩, ty, pos, af, g⟩ W (.int .i64 l) W := by
 show (do let d ← resolve (ji E) ⟨.builtin .len, #[x], #[t]⟩ ty; invoke d.target d.args : Sem Next).run P W = _
 simp [resolve, invoke, builtin, Builtin.len_, ar a, h, goInt]
theorem kj {α : Type} {R : qa α} {k : Nat} {m : jF} {x : Operand} {t e : TypeId} {v : Value} {l : List α} (h : P.underlying t = some (.slice e)) (i : ji E x = v) (a : Sl R k m v l) : kA P E ⟨d, .call ⟨.builtin .len, #[x], #[t]⟩, ty, pos, af, g⟩ W (.int .i64 l.length) W := by
 obtain ⟨A, c, rfl, _⟩ := a
 exact zw h i
theorem yY {t : TypeId} {x a : Operand} {n : IntKind} {s : ByteArray} {i : Int} {c : UInt8} (k : P.underlying t = some .string) (m : ji E x = .string s) (hi : ji E a = .int n i) (h : 0 ≤ i) (j : s[i.toNat]? = some c) :
  kA P E ⟨d, .index t x a, ty, pos, af, g⟩ W (.int .u8 c.toNat) W := by
 show (do pure (.value (← Instr.index t (ji E x) (ji E a))) : Sem Next).run P W = _
 rw [m, hi]
 simp [Instr.index, asIntOf, ar k, h, j]
def kY (P : Program) (t : TypeId) (f off : Nat) : Prop := ∀ b o w, (Instr.fieldAt t (.pointer (some ⟨b, o, none⟩)) f).run P w = .ok (.pointer (some ⟨b, o + off, none⟩)) w
theorem jh {t : TypeId} {x : Operand} {f off b o : Nat} (a : kY P t f off) (c : ji E x = .pointer (some ⟨b, o, none⟩)) : kA P E ⟨d, .fieldAddr t x f, ty, pos, af, g⟩ W (.pointer (some ⟨b, o + off, none⟩)) W := by
 show (do pure (.value (← Instr.fieldAt t (ji E x) f)) : Sem Next).run P W = _
 rw [c]; simp [a b o W]
theorem sZ {t : TypeId} {x : Operand} {f off : Nat} {v : Value} {ys : List Value} (a : List Value) (k : kY P t f off) (p : ji E x = v) (n : At μ v ys) (q : (ys.drop off).take a.length = a) :
  ∃ h, At μ h a ∧ ∀ W, kA P E ⟨d, .fieldAddr t x f, ty, pos, af, g⟩ W h W := by
 obtain ⟨b, o, cs, T, fr, rfl, h1, i⟩ := n
 refine ⟨_, ⟨b, o + off, cs, T, fr, rfl, h1, fun j y c => ?_⟩, fun W => jh k p⟩
 have m : j < a.length := (aH.1 c).1
 have := i (off + j) y (by
  rw [← q, cw m, cq] at c
  exact c)
 rw [dG]
 exact this
theorem kJ {x : Operand} {a : Addr} (c : ji E x = .pointer (some a)) : kA P E ⟨d, .nilCheck x, ty, pos, af, g⟩ W (.pointer (some a)) W := by
 unfold kA execOp
 simp [c]
theorem HQ {α : Type} {R : qa α} {k : Nat} {t e : TypeId} {x h : Operand} {M : IntKind} {v : Value} {i : Int} {l : List α} {x0 : α} (I : P.underlying t = some (.slice e)) (he : ∀ w, (sizeOf e).run P w = .ok k w) (J : ji E x = v) (hi : ji E h = .int M i) (G : Sl R k μ v l) (n : 0 ≤ i) (m : l[i.toNat]? = some x0) :
  ∃ p ys, ys.length = k ∧ R μ ys x0 ∧ At μ p ys ∧ ∀ W, kA P E ⟨d, .indexAddr t x h, ty, pos, af, g⟩ W p W := by
 obtain ⟨A, c, rfl, O, Q, o⟩ := G
 have F : i.toNat < l.length := (aH.1 m).1
 obtain ⟨b, off, cs, T, fr, rfl, q, s⟩ := o (by omega)
 obtain ⟨ys, u, z, a⟩ := s i.toNat x0 m
 refine ⟨.pointer (some ⟨b, off + i.toNat * k, none⟩), ys, u, z, ⟨b, off + i.toNat * k, cs, T, fr, rfl, q, fun j y L => a j y L⟩, fun W => ?_⟩
 show (do pure (.value (← Instr.indexAt t (ji E x) (ji E h))) : Sem Next).run P W = _
 rw [J, hi]
 have D : 0 ≤ i ∧ i < (l.length : Int) := ⟨n, by omega⟩
 simp [Instr.indexAt, asIntOf, ar I, he W, D, bV]
theorem kC {α : Type} {enc : α → List Value} {k : Nat} {t e : TypeId} {x a : Operand} {u : IntKind} {v : Value} {i : Int} {l : List α} {x0 : α} (q : P.underlying t = some (.slice e)) (he : ∀ w, (sizeOf e).run P w = .ok k w) (s : ji E x = v) (hi : ji E a = .int u i) (o : Sl (Pl enc) k μ v l) (c : 0 ≤ i) (n : l[i.toNat]? = some x0) :
  ∃ p, At μ p (enc x0) ∧ ∀ W, kA P E ⟨d, .indexAddr t x a, ty, pos, af, g⟩ W p W := by
 obtain ⟨p, ys, h1, h, j, m⟩ := HQ (d := d) (ty := ty) (pos := pos) (af := af) (g := g) q he s hi o c n
 cases h
 exact ⟨p, j, m⟩
theorem II (P : Program) {W : World} {b off : Nat} {cs : Array Value} {T : TypeId} {fr : Nat × Nat} (a : W.heap[b]? = some (.cells cs T fr)) (ys : List Value) (d : ∀ j y, ys[j]? = some y → cs[off + j]? = some y) :
  (loadCells ⟨b, off, none⟩ ys.length).run P W = .ok ys.toArray W :=
 gB W ⟨b, off, none⟩ ys (fun j v c => by rw [bV, ee W b (off + j) cs T fr a]; exact d j v c)
theorem Cu {W : World} {t : TypeId} {b off : Nat} {cs : Array Value} {T : TypeId} {fr : Nat × Nat} (a : ∀ w, (isAgg t).run P w = .ok true w) (ys : List Value) (c : ∀ w, (sizeOf t).run P w = .ok ys.length w) (d : W.heap[b]? = some (.cells cs T fr)) (g : ∀ j y, ys[j]? = some y → cs[off + j]? = some y) : (Instr.loadAt t (.pointer (some ⟨b, off, none⟩))).run P W = .ok (.agg ys.toArray) W := by
 simp [Instr.loadAt, Instr.sureAddr, loadVar, a W, c W, II P d ys g]
theorem Ci {W : World} {t : TypeId} {b off : Nat} {cs : Array Value} {T : TypeId} {fr : Nat × Nat} (a : ∀ w, (isAgg t).run P w = .ok false w) {y : Value} (c : W.heap[b]? = some (.cells cs T fr)) (g : cs[off]? = some y) : (Instr.loadAt t (.pointer (some ⟨b, off, none⟩))).run P W = .ok y W := by
 have d : W.cell? ⟨b, off, none⟩ = some y := by rw [ee W b off cs T fr c]; exact g
 simp [Instr.loadAt, Instr.sureAddr, loadVar, a W, load, Sem.run, d]
theorem jf {t : TypeId} {x : Operand} {a v : Value} (h : ji E x = a) (c : (Instr.loadAt t a).run P W = .ok v W) : kA P E ⟨d, .load t x, ty, pos, af, g⟩ W v W := by
 show (do pure (.value (← Instr.loadAt t (ji E x))) : Sem Next).run P W = _
 rw [h]; simp [c]
def rM (μ : jF) (A : List (Nat × Obj)) (W : World) : Prop := (∀ b o, μ b = some o → W.heap[b]? = some o) ∧ ∀ b o, (b, o) ∈ A → W.heap[b]? = some o
theorem ST.has (h : ST dd F w W μ L) : rM μ L W := ⟨h.mem, fun b o a => (h.box b o a).1⟩
theorem rM.sub {μ' : jF} {A A' : List (Nat × Obj)} (h : rM μ A W) (d : jC μ' μ) (c : ∀ p, p ∈ A' → p ∈ A) : rM μ' A' W := ⟨fun b o a => h.1 b o (d b o a), fun b o a => h.2 b o (c _ a)⟩
theorem kG {A : List (Nat × Obj)} (hH : rM μ A W) {t : TypeId} {p : Value} {ys : List Value} (hp : At μ p ys) (c : ∀ w, (isAgg t).run P w = .ok true w) (d : ∀ w, (sizeOf t).run P w = .ok ys.length w) :
  (Instr.loadAt t p).run P W = .ok (.agg ys.toArray) W := by
 obtain ⟨b, off, cs, T, fr, rfl, h1, a⟩ := hp
 exact Cu c ys d (hH.1 _ _ h1) a
theorem lL {A : List (Nat × Obj)} (hH : rM μ A W) {t : TypeId} {p y : Value} (hp : At μ p [y]) (c : ∀ w, (isAgg t).run P w = .ok false w) :
  (Instr.loadAt t p).run P W = .ok y W := by
 obtain ⟨b, off, cs, T, fr, rfl, h1, a⟩ := hp
 exact Ci c (hH.1 _ _ h1) (a 0 y rfl)
theorem jm {A : List (Nat × Obj)} (hH : rM μ A W) {t : TypeId} {b off : Nat} {cs : Array Value} {T : TypeId} {fr : Nat × Nat} (g : (b, Obj.cells cs T fr) ∈ A) (ys : List Value) (i : (cs.toList.drop off).take ys.length = ys) (d : ∀ w, (isAgg t).run P w = .ok true w) (h : ∀ w, (sizeOf t).run P w = .ok ys.length w) : (Instr.loadAt t (.pointer (some ⟨b, off, none⟩))).run P W = .ok (.agg ys.toArray) W :=
 Cu d ys h (hH.2 _ _ g) (fun j y a => by
  have c : j < ys.length := (aH.1 a).1
  rw [← i, cw c, cq] at a
  simpa using a)
theorem jq {A : List (Nat × Obj)} (hH : rM μ A W) {t : TypeId} {b off : Nat} {cs : Array Value} {T : TypeId} {fr : Nat × Nat} (c : (b, Obj.cells cs T fr) ∈ A) {y : Value} (d : cs[off]? = some y) (a : ∀ w, (isAgg t).run P w = .ok false w) : (Instr.loadAt t (.pointer (some ⟨b, off, none⟩))).run P W = .ok y W :=
 Ci a (hH.2 _ _ c) d
theorem kO {t : TypeId} {a : Array (Nat × Operand)} {c : Array (Nat × Value)} {v : Value} (h : a.map (fun (i, x) => (i, ji E x)) = c) (j : ∀ W, (Instr.build t c).run P W = .ok v W) : kA P E ⟨d, .build t a, ty, pos, af, g⟩ W v W := by
 show (do pure (.value (← Instr.build t (a.map fun (i, x) => (i, ji E x)))) : Sem Next).run P W = _
 rw [h]; simp [j W]
theorem ku {t : TypeId} {z cs : Array Value} {a : Array Field} {c : Array (Nat × Value)} {pl : Array (Nat × Nat)} (h : ∀ w, (zeroValue t).run P w = .ok (.agg z) w) (g : P.underlying t = some (.struct a)) (hp : ∀ w, (a.mapM fun f => do pure (f.offset, ← sizeOf f.type) : Sem (Array (Nat × Nat))).run P w = .ok pl w) (d : Instr.fill (pl[·]?) z c.toList = some cs) (W : World) : (Instr.build t c).run P W = .ok (.agg cs) W := by
 simp only [Instr.build, aZ, h W, aN, ar g, Value.cells]
 rw [hp W]
 simp only [aN, d, bQ]
end
theorem E2 {α : Type} : ∀ (a : Ask α) (w : World), w.drawn ≤ (w.ask a).2.drawn
 | .done a, w => by simp [World.ask]
 | .ask c range k, w => by
  unfold World.ask
  dsimp only
  split
  ·exact E2 (k 0) w
  ·refine cn (gV w.drawn) ?_
   exact E2 _ { w with drawn := w.drawn + 1 }
theorem Oi (w : World) (c : Sys) : w.drawn ≤ (w.sys c).2.drawn := by
 have h := E2 (Kernel.perform c w.os) w
 unfold World.sys
 generalize w.ask (Kernel.perform c w.os) = r at *
 obtain ⟨⟨a, d⟩, g⟩ := r
 cases a <;> simp at h ⊢ <;> exact h
theorem GZ {p : Program} {w c : World} {a : Addr} {u : TypeId} {k : Addr} {v : Value} {b : Bool} {l : List Addr} (h : w.viewStore p a u k v b = .ok (c, l)) : c.drawn = w.drawn := by
 unfold World.viewStore at h
 simp only [bind, Except.bind, pure, Except.pure] at h
 split at h
 ·cases h
 ·split at h
  ·cases h
  ·split at h
   ·split at h
    ·cases h
    ·split at h
     ·cases h
     ·cases h; rfl
   ·cases h
theorem HW {p : Program} {w c : World} {a : Addr} {v : Value} {b : Bool} {l : List Addr} (h : w.farStore p a v b = .ok (c, l)) : c.drawn = w.drawn := by
 unfold World.farStore at h
 split at h
 ·split at h
  ·rename_i h1; cases h; exact GZ h1
  ·cases h
 ·cases h
theorem nA {α : Type} {p : Program} : ∀ (s : Sem α) (w d : World) (a : α), s.run p w = .ok a d → w.drawn ≤ d.drawn
 | .pure a, w, d, b, h => by simp only [Sem.run] at h; cases h; exact aM _
 | .load m a k, w, d, b, h => by
  simp only [Sem.run] at h
  split at h
  ·exact nA _ _ _ _ h
  ·split at h
   ·exact nA _ _ _ _ h
   ·cases h
 | .store m a v k, w, d, b, h => by
  have key : ∀ (r : Result α) i, r = .ok b d → (r = (match w.cell? a with
    | some _ => if w.frozen? a then .halt i w else k.run p (w.setCell a v)
    | none => match w.farStore p a v (m == .atomic) with
     | .ok (w, _) => k.run p w
     | .error h => .halt h w)) → w.drawn ≤ d.drawn := by
   intro r i j h
   rw [j] at h
   split at h
   ·split at h
    ·cases h
    ·have := nA k _ _ _ h.symm
     simpa [World.setCell] using this
   ·split at h
    ·rename_i h1
     have g := nA k _ _ _ h.symm
     rw [HW h1] at g
     exact g
    ·cases h
  cases v with
  | agg cs => simp only [Sem.run] at h; cases h
  | tuple cs => simp only [Sem.run] at h; cases h
  | _ => exact key _ _ h (by simp only [Sem.run]; rfl)
 | .new o k, w, d, b, h => by simp only [Sem.run] at h; have := nA (k _) _ _ _ h; exact this
 | .shape r k, w, d, b, h => by simp only [Sem.run] at h; exact nA _ _ _ _ h
 | .freeze a n k, w, d, b, h => by
  simp only [Sem.run] at h
  have := nA k _ _ _ h
  unfold World.freeze at this
  split at this <;> exact this
 | .frozen a k, w, d, b, h => by simp only [Sem.run] at h; exact nA _ _ _ _ h
 | .getObj r k, w, d, b, h => by
  simp only [Sem.run] at h
  split at h <;> try (cases h; done)
  exact nA _ _ _ _ h
 | .setObj r o k, w, d, b, h => by
  simp only [Sem.run] at h
  split at h <;> try (cases h; done)
  have := nA k _ _ _ h
  exact this
 | .choose q k, w, d, b, h => by
  simp only [Sem.run] at h
  split at h
  ·exact nA _ _ _ _ h
  ·exact cn (gV _) (nA _ _ _ _ h)
 | .sys c k, w, d, b, h => by
  simp only [Sem.run] at h
  exact cn (Oi w c) (nA _ _ _ _ h)
 | .program k, w, d, b, h => by simp only [Sem.run] at h; exact nA _ _ _ _ h
 | .mark m k, w, d, b, h => by simp only [Sem.run] at h; exact nA k _ _ _ h
 | .halt x, w, d, b, h => by simp only [Sem.run] at h; cases h
end Go.Proofs.YtbnbdigcbldfhaaGreat
namespace Go.Proofs.YtbnbdigcbldfhaaGreat
open Go.RowKit
variable {dd : Bool}
section
variable {P : Program} {n : Nat} {Q : mP} {E : Nat → Value} {W : World} {ops : Array Oper} {rest : List Oper}
 {d : Option Nat} {ty : TypeId} {pos : String} {af : Array Edge} {g : Option (Nat × Bool)}
 {F : Nat → Prop} {w : World} {μ : jF} {L : List (Nat × Obj)}
def mg (P : Program) (E : Nat → Value) (o : Oper) (W : World) (K : Value → World → Prop) : Prop :=
 (∃ v W', (execOp (ji E) o).run P W = .ok (.value v) W' ∧ K v W') ∨ (∃ W', (execOp (ji E) o).run P W = .ok .skip W' ∧ K undef W') ∨
 (∃ f args, (execOp (ji E) o).run P W = .ok (.enter f args) W ∧ Calls P f args W fun e a => ∃ v, e = .returned v ∧ K v a)
theorem mg.mono {o : Oper} {K K' : Value → World → Prop} (h : mg P E o W K) (hk : ∀ v W', K v W' → K' v W') : mg P E o W K' := by
 rcases h with ⟨v, W', h1, a⟩ | ⟨W', h1, a⟩ | ⟨f, args, h1, a⟩
 ·exact .inl ⟨v, W', h1, hk _ _ a⟩
 ·exact .inr (.inl ⟨W', h1, hk _ _ a⟩)
 ·exact .inr (.inr ⟨f, args, h1, bw a (fun _ _ ⟨v, c, d⟩ => ⟨v, c, hk _ _ d⟩)⟩)
theorem RN {o : Oper} {dd : Nat} (hw : lV n ops E o) (g : o.dst = some dd) (i : dd < n) (h : mg P E o W fun v W' => LW P n ops Q rest (mu E dd v) W') : LW P n ops Q (o :: rest) E W := by
 rcases h with ⟨v, W', h1, c⟩ | ⟨W', h1, c⟩ | ⟨f, args, h1, c⟩
 ·exact Oz hw g i h1 c
 ·intro a d
  unfold wpList
  rw [aj (hw.of d)]
  refine .inl ?_
  unfold Oper.wp
  rw [d.eval, h1, ed, g]
  exact c _ (d.put i _)
 ·exact P2 hw g i h1 c
theorem Ty {o : Oper} (hw : lV n ops E o) (g : o.dst = none) (h : mg P E o W fun _ W' => LW P n ops Q rest E W') : LW P n ops Q (o :: rest) E W := by
 rcases h with ⟨v, W', h1, d⟩ | ⟨W', h1, d⟩ | ⟨f, args, h1, d⟩
 ·intro a c
  unfold wpList
  rw [aj (hw.of c)]
  refine .inl ?_
  unfold Oper.wp
  rw [c.eval, h1, dl, g]
  exact d _ (c.uD _)
 ·exact PA hw g h1 d
 ·intro a c
  unfold wpList
  rw [aj (hw.of c)]
  refine .inl ?_
  unfold Oper.wp
  rw [c.eval, h1, dm]
  refine bw d ?_
  rintro e j ⟨v, rfl, i⟩
  simp only [g]
  exact i _ (c.uD _)
theorem jU {K : Value → World → Prop} {t : TypeId} {x : Operand} {v : Value} (a : ST dd F w W μ L) (c : ji E x = v) (h : ∀ W' b, ST dd F w W' μ ((b, .cells v.cells t (0, 0)) :: L) → K (.pointer (some ⟨b, 0, none⟩)) W') : mg P E ⟨d, .box t x, ty, pos, af, g⟩ W K :=
 .inl ⟨.pointer (some ⟨W.heap.size, 0, none⟩), W.alloc (.cells v.cells t (0, 0)), by
   show (do pure (.value (← Instr.box t (ji E x))) : Sem Next).run P W = _
   rw [c]
   simp [Instr.box, newVar, newRow, newObj, Sem.run], h _ _ (a.alloc _)⟩
theorem kl {K : Value → World → Prop} {t : TypeId} {z : Value} (a : ST dd F w W μ L) (c : ∀ w, (zeroValue t).run P w = .ok z w) (h : ∀ W' b, ST dd F w W' μ ((b, .cells z.cells t (0, 0)) :: L) → K (.pointer (some ⟨b, 0, none⟩)) W') : mg P E ⟨d, .alloc t, ty, pos, af, g⟩ W K :=
 .inl ⟨.pointer (some ⟨W.heap.size, 0, none⟩), W.alloc (.cells z.cells t (0, 0)), by
   show (do pure (.value (← Instr.alloc t true (.tuple #[]))) : Sem Next).run P W = _
   simp [Instr.alloc, c W, newVar, newRow, newObj, Sem.run], h _ _ (a.alloc _)⟩
theorem Hv {t e : TypeId} {m k : Nat} {z : Value} {d : Array (Nat × Value)} {cs : Array Value} (h : P.underlying t = some (.slice e)) (g : ∀ w, (sizeOf e).run P w = .ok k w) (j : ∀ w, (zeroValue e).run P w = .ok z w) (hm : m * k ≤ 16777216) (a : Instr.fill (fun i => some (i * k, k)) ((Array.range (m * k)).map (fun i => (if m * k = 0 then (#[] : Array Value) else z.cells)[i % (if m * k = 0 then (#[] : Array Value) else z.cells).size]!)) d.toList = some cs) (W : World) :
  (Instr.buildSlice t m d).run P W = .ok (.slice (some ⟨W.heap.size, 0, none⟩) m m) (W.alloc (.cells cs e (0, 0))) := by
 simp only [Instr.buildSlice, aZ, ar h, aN, g W]
 rw [ai (by omega)]
 by_cases c : m * k = 0
 ·simp only [c, aD] at a ⊢
  simp only [aZ, bQ, aN, a]
  simp [newRow, newObj, Sem.run]
 ·simp only [c, aq] at a ⊢
  simp only [aZ, j W, bQ, aN, a]
  simp [newRow, newObj, Sem.run]
theorem kh {K : Value → World → Prop} {t e : TypeId} {m : Nat} {c : Array (Nat × Operand)} {j : Array (Nat × Value)} {cs : Array Value} (a : ST dd F w W μ L) (k : c.map (fun (i, x) => (i, ji E x)) = j) (n : ∀ W, (Instr.buildSlice t m j).run P W = .ok (.slice (some ⟨W.heap.size, 0, none⟩) m m) (W.alloc (.cells cs e (0, 0)))) (h : ∀ W' b, ST dd F w W' μ ((b, .cells cs e (0, 0)) :: L) → K (.slice (some ⟨b, 0, none⟩) m m) W') : mg P E ⟨d, .buildSlice t m c, ty, pos, af, g⟩ W K :=
 .inl ⟨.slice (some ⟨W.heap.size, 0, none⟩) m m, W.alloc (.cells cs e (0, 0)), by
   show (do pure (.value (← Instr.buildSlice t m (c.map fun (i, x) => (i, ji E x)))) : Sem Next).run P W = _
   rw [k]
   simp [n W], h _ _ (a.alloc _)⟩
theorem ST.store {A B : List (Nat × Obj)} {b : Nat} {cs : Array Value} {t : TypeId} (a : ST dd F w W μ (A ++ (b, .cells cs t (0, 0)) :: B)) (cs' : Array Value) :
  ST dd F w (W.setRow b cs') μ (A ++ (b, .cells cs' t (0, 0)) :: B) := by
 have c := (a.box b _ (by simp : (b, Obj.cells cs t (0, 0)) ∈ A ++ (b, .cells cs t (0, 0)) :: B)).1
 refine a.put ⟨rfl, rfl, rfl, aM _, by simp [World.setRow]⟩ (fun k hk => ?_) (setRow_heap W b cs cs' t (0, 0) c)
 simp only [World.setRow, cL]
 rw [ai (fun e => hk e.symm)]
theorem Cz (P : Program) {W : World} {t : TypeId} {b off : Nat} {cs : Array Value} {T : TypeId} (v : Value) (a : ∀ w, (sizeOf t).run P w = .ok v.cells.size w) (h1 : ∀ u ∈ v.cells.toList, u.oneCell' = true) (c : W.heap[b]? = some (.cells cs T (0, 0))) (d : off + v.cells.size ≤ cs.size) : (Instr.storeAt t (.pointer (some ⟨b, off, none⟩)) v).run P W = .ok () (W.setRow b (cs.toList.take off ++ v.cells.toList ++ cs.toList.drop (off + v.cells.size)).toArray) := by
 have := gW (P := P) b off T v.cells.toList 0 cs W c (by simpa using d) h1
 simp [Instr.storeAt, Instr.sureAddr, storeVar, a W]
 simpa using this
theorem AT {K : Value → World → Prop} (A : List (Nat × Obj)) {B : List (Nat × Obj)} {t : TypeId} {x y : Operand} (v : Value) {b off : Nat} {cs : Array Value} {T : TypeId} (cs' : Array Value) (a : ST dd F w W μ (A ++ (b, .cells cs T (0, 0)) :: B)) (m : ji E x = .pointer (some ⟨b, off, none⟩)) (n : ji E y = v) (c : ∀ w, (sizeOf t).run P w = .ok v.cells.size w) (h1 : ∀ u ∈ v.cells.toList, u.oneCell' = true) (k : off + v.cells.size ≤ cs.size) (j : (cs.toList.take off ++ v.cells.toList ++ cs.toList.drop (off + v.cells.size)).toArray = cs') (h : ∀ W', ST dd F w W' μ (A ++ (b, .cells cs' T (0, 0)) :: B) → K undef W') : mg P E ⟨d, .store t x y, ty, pos, af, g⟩ W K :=
 .inr (.inl ⟨W.setRow b cs', by
   show (do Instr.storeAt t (ji E x) (ji E y); pure .skip : Sem Next).run P W = _
   have i := (a.box b _ (by simp : (b, Obj.cells cs T (0, 0)) ∈ A ++ (b, .cells cs T (0, 0)) :: B)).1
   rw [m, n]
   simp only [aZ, Cz P v c h1 i k, j, aN, bQ], h _ (a.store cs')⟩)
def jJ (dd : Bool) (P : Program) (f : FuncId) (args : List Value) (w : World) (v : Value) : Prop := Calls P f args.toArray w fun e a => e = .returned v ∧ Ex dd w a
theorem Il {f : FuncId} {fv : Operand} {ax : Array Operand} {ats : Array TypeId} {caps args : Array Value} (c : ji E fv = .func (.func f) #[] caps) (he : ∀ args w, (callFunc f args).run P w = .ok (.enter f args) w) (a : ax.map (ji E) ++ caps = args) :
  (execOp (ji E) ⟨d, .call ⟨.value fv, ax, ats⟩, ty, pos, af, g⟩).run P W = .ok (.enter f args) W := by
 show (do let d ← resolve (ji E) ⟨.value fv, ax, ats⟩ ty; invoke d.target d.args : Sem Next).run P W = _
 rw [← a]
 simp only [resolve, c, Deferred.ofValue, aZ, bQ, aN, invoke]
 simp [he]
theorem Ff {K : Value → World → Prop} {f : FuncId} {fv : Operand} {ax : Array Operand} {ats : Array TypeId} {caps args : Array Value} (c : ji E fv = .func (.func f) #[] caps) (he : ∀ args w, (callFunc f args).run P w = .ok (.enter f args) w) (a : ax.map (ji E) ++ caps = args) (h : Calls P f args W fun e i => ∃ v, e = .returned v ∧ K v i) : mg P E ⟨d, .call ⟨.value fv, ax, ats⟩, ty, pos, af, g⟩ W K :=
 .inr (.inr ⟨f, args, Il c he a, h⟩)
theorem QX {K : Value → World → Prop} {f : FuncId} {fv : Operand} {ax : Array Operand} {ats : Array TypeId} {args : List Value} {v : Value} (a : ST dd F w W μ L) (k : ji E fv = .func (.func f) #[] #[]) (he : ∀ args w, (callFunc f args).run P w = .ok (.enter f args) w) (i : (ax.map (ji E) ++ (#[] : Array Value)) = args.toArray) (j : jJ dd P f args W v) (h : ∀ W', ST dd F w W' μ L → K v W') : mg P E ⟨d, .call ⟨.value fv, ax, ats⟩, ty, pos, af, g⟩ W K :=
 Ff k he i (bw j (fun _ _ ⟨h1, c⟩ => ⟨v, h1, h _ (a.Fi c)⟩))
def jy {α : Type} (e : TypeId) (enc : α → List Value) (k : Nat) (v : Value) (l : List α) (R : List (Nat × Obj)) : Prop :=
 (v = .slice none 0 0 ∧ l = [] ∧ R = []) ∨
 ∃ g cap a, v = .slice (some ⟨g, 0, none⟩) l.length cap ∧ R = [(g, .cells a e (0, 0))] ∧ l.length ≤ cap ∧ cap ≤ maxLen ∧ a.size = cap * k ∧ a.toList.take (l.length * k) = (l.map enc).flatten
theorem nY {α : Type} {enc : α → List Value} {k : Nat} (hk : ∀ x, (enc x).length = k) : ∀ l : List α, (l.map enc).flatten.length = l.length * k
 | [] => by simp
 | x :: l => by simp [nY hk l, hk x, bo, iG]
theorem wM {α : Type} {enc : α → List Value} {k : Nat} (hk : ∀ x, (enc x).length = k) : ∀ (l : List α) (i : Nat) (x : α), l[i]? = some x → ∀ j y, (enc x)[j]? = some y → (l.map enc).flatten[i * k + j]? = some y
 | [], i, x, h => by cases h
 | z :: l, 0, x, h => by
  simp at h; subst h
  intro j y a
  have c : j < (enc z).length := (aH.1 a).1
  simp [ei, c]
  rw [bq c] at a
  simpa using a
 | z :: l, i + 1, x, h => by
  intro j y a
  have := wM hk l i x (by simpa using h) j y a
  simp only [aQ, cy]
  rw [ej (by rw [hk z]; have := Nat.le_mul_of_pos_left k (Nat.succ_pos i); simp [bo] at *; omega), hk z]
  rw [show (i + 1) * k + j - k = i * k + j by rw [bo]; omega]
  exact this
theorem Gs {α : Type} {enc : α → List Value} {k : Nat} (hk : ∀ x, (enc x).length = k) : ∀ (l : List α) (q : Nat) (y : Value), (l.map enc).flatten[q]? = some y → ∃ i x j, l[i]? = some x ∧ (enc x)[j]? = some y ∧ q = i * k + j
 | [], q, y, h => by simp at h
 | z :: l, q, y, h => by
  simp only [aQ, cy] at h
  by_cases c : q < k
  ·rw [List.getElem?_append_left (by rw [hk]; exact c)] at h
   exact ⟨0, z, q, rfl, h, by simp⟩
  ·rw [ej (by rw [hk]; omega), hk] at h
   obtain ⟨i, x, j, h1, a, d⟩ := Gs hk l (q - k) y h
   exact ⟨i + 1, x, j, by simpa using h1, a, by rw [bo]; omega⟩
theorem jy.nil {α : Type} (e : TypeId) (enc : α → List Value) (k : Nat) : jy e enc k (.slice none 0 0) [] [] := .inl ⟨rfl, rfl, rfl⟩
theorem jy.sl {α : Type} {e : TypeId} {enc : α → List Value} {k : Nat} {v : Value} {l : List α} {R : List (Nat × Obj)} {m : jF} (h : jy e enc k v l R) (hk : ∀ x, (enc x).length = k) (hm : ∀ b o, (b, o) ∈ R → m b = some o) : Sl (Pl enc) k m v l := by
 rcases h with ⟨rfl, rfl, rfl⟩ | ⟨g, cap, a, rfl, rfl, h1, d, s, n⟩
 ·exact Sl.nil _ _ _
 ·refine ⟨_, cap, rfl, h1, d, fun _ => ⟨g, 0, a, e, (0, 0), rfl, hm _ _ (by simp), fun i x p => ⟨enc x, hk x, rfl, fun j y q => ?_⟩⟩⟩
  have := wM hk l i x p j y q
  rw [← n] at this
  have c : i * k + j < l.length * k := by
   have := (aH.1 this).1
   simp at this; omega
  rw [cw c] at this
  simpa using this
theorem jy.len {α : Type} {e : TypeId} {enc : α → List Value} {k : Nat} {v : Value} {l : List α} {R : List (Nat × Obj)} (h : jy e enc k v l R) : l.length ≤ 9223372036854775807 := by
 rcases h with ⟨rfl, rfl, rfl⟩ | ⟨g, cap, a, rfl, rfl, h1, c, d, i⟩
 ·simp
 ·unfold maxLen at c; omega
theorem jy.fr {α : Type} {e : TypeId} {enc : α → List Value} {k : Nat} {v : Value} {l : List α} {R X Y : List (Nat × Obj)} (h : jy e enc k v l R) (a : ST dd jT w W μ (X ++ (R ++ Y))) : Fr w.heap.size v := by
 rcases h with ⟨rfl, rfl, rfl⟩ | ⟨g, cap, d, rfl, rfl, h1, i, j, m⟩
 ·exact Fr.nil _
 ·intro b c
  simp [Value.ownBlock] at c
  subst c
  rcases (a.box g _ (by simp; exact .inr (.inl rfl))).2.2 with h | h
  ·exact h
  ·exact h.elim
theorem jy.lit {α : Type} {e : TypeId} {enc : α → List Value} {k b m : Nat} {l : List α} {cs : Array Value} (hm : l.length = m) (c : m ≤ maxLen) (d : cs.toList = (l.map enc).flatten) (a : cs.size = m * k) : jy e enc k (.slice (some ⟨b, 0, none⟩) m m) l [(b, .cells cs e (0, 0))] := by
 subst hm
 refine .inr ⟨b, _, cs, rfl, rfl, aM _, c, a, ?_⟩
 rw [← d, ← a]
 exact bN (by rw [bL]; exact aM _)
def lj {α : Type} (a : Nat) (l m : List α) : Option (List α) := if (l.length + m.length) * a ≤ 140737488355328 ∧ l.length + m.length ≤ maxLen then some (l ++ m) else none
theorem JG {K : Value → World → Prop} {α : Type} {e t : TypeId} {enc : α → List Value} {k ao : Nat} {z v vs : Value} {l m r : List α} {R : List (Nat × Obj)} (X : List (Nat × Obj)) {Y : List (Nat × Obj)} {x y : Operand} {i : TypeInfo} (p : ST dd F w W μ (X ++ (R ++ Y))) (hk : ∀ x, (enc x).length = k) (c9 : 0 < k) (h1 : ∀ x, ∀ u ∈ enc x, u.oneCell' = true) (ht : P.underlying t = some (.slice e)) (hi : P.info? e = some i) (hz : i.zero = some z) (cf : z.cells.size = k) (ca : i.size = k) (c7 : i.bytes = ao) (hx : ji E x = v) (hy : ji E y = vs) (hR : jy e enc k v l R) (hs : Sl (Pl enc) k (hp W) vs m) (n : lj ao l m = some r) (h : ∀ W' v' R', ST dd F w W' μ (X ++ (R' ++ Y)) → jy e enc k v' r R' → K v' W') : mg P E ⟨d, .call ⟨.builtin .append, #[x, y], #[t, t]⟩, ty, pos, af, g⟩ W K := by
 unfold lj at n
 split at n
 case isFalse => cases n
 rename_i b2
 cases n
 have ab : ∀ (V : Value) (W' : World), (Builtin.append_ #[t, t] ty #[v, vs]).run P W = .ok V W' → (execOp (ji E) ⟨d, .call ⟨.builtin .append, #[x, y], #[t, t]⟩, ty, pos, af, g⟩).run P W = .ok (.value V) W' := by
  intro V W' hV
  show (do let d ← resolve (ji E) ⟨.builtin .append, #[x, y], #[t, t]⟩ ty; invoke d.target d.args : Sem Next).run P W = _
  simp [resolve, invoke, builtin, hx, hy, hV]
 obtain ⟨A, c, rfl, cp, cS, c8⟩ := hs
 have a8 : W.ownsRow 0 e k v l.length (l.map enc).flatten := by
  refine ⟨nY hk l, ?_⟩
  rcases hR with ⟨rfl, rfl, rfl⟩ | ⟨g, cap, I, rfl, rfl, h1, h2, h3, h4⟩
  ·exact .inl ⟨rfl, rfl⟩
  ·exact .inr ⟨g, cap, I, rfl, fg _, (p.box g _ (by simp)).1, h1, h2, h3, h4⟩
 have bs : m.length = 0 ∨ ∃ ad, A = some ad ∧ ∀ j u, (m.map enc).flatten[j]? = some u → W.cell? (ad.add j) = some u := by
  rcases cH m.length with M | M
  ·exact .inl M
  ·obtain ⟨b, off, cs, T, fr, rfl, h6, h7⟩ := c8 M
   refine .inr ⟨⟨b, off, none⟩, rfl, fun j u hu => ?_⟩
   obtain ⟨i, x, q, h8, h9, rfl⟩ := Gs hk m j u hu
   obtain ⟨ys, _, c3, c4⟩ := h7 i x h8
   cases c3
   rw [bV, ee W b (off + (i * k + q)) cs T fr h6, ← dG]
   exact c4 q u h9
 have ba : ∀ u ∈ (m.map enc).flatten, u.oneCell' = true := by
  intro u hu
  obtain ⟨ys, cc, cb⟩ := fQ.1 hu
  obtain ⟨x, _, rfl⟩ := aR.1 cc
  exact h1 x u cb
 by_cases b6 : m.length = 0
 ·have hm : m = [] := aX b6
  subst hm
  have hr : (Builtin.append_ #[t, t] ty #[v, .slice A 0 c]).run P W = .ok v W := by
   rcases a8.2 with ⟨rfl, M⟩ | ⟨g, cap, I, rfl, _, hg, b7, _, dk, _⟩
   ·cases A with
    | none => simp [Builtin.append_, ar ht, sizeOf, typeInfo, hi, Builtin.lenOf, Builtin.firstCells]
    | some ad => simp [Builtin.append_, ar ht, sizeOf, typeInfo, hi, Builtin.lenOf, Builtin.firstCells, loadCells, loadCellsFrom]
   ·cases A with
    | none => simp [Builtin.append_, ar ht, sizeOf, typeInfo, hi, Builtin.lenOf, Builtin.firstCells, b7, storeCells]
    | some ad => simp [Builtin.append_, ar ht, sizeOf, typeInfo, hi, Builtin.lenOf, Builtin.firstCells, loadCells, loadCellsFrom, b7, storeCells]
  exact .inl ⟨v, W, ab _ _ (by simpa using hr), by simpa using h W v R p (by simpa using hR)⟩
 rcases bs with M | ⟨ad, rfl, a1⟩
 ·exact absurd M b6
 obtain ⟨v', W', hr, b0, s, cm, L⟩ := run_append_own_at (P := P) W 0 t ty e i z k ao ht hi hz ca c7 cf c9 v l.length (l.map enc).flatten a8 ad m.length c (m.map enc).flatten (nY hk m) a1 ba b2.2 b2.1 (fg _)
 have av := nA _ _ _ _ hr
 refine .inl ⟨v', W', ab _ _ hr, ?_⟩
 have hlen : (l ++ m).length = l.length + m.length := by simp
 rcases b0.2 with ⟨_, M⟩ | ⟨Q, a6, a7, rfl, _, aE, ch, b3, b4, c0⟩
 ·omega
 have b1 : jy e enc k (.slice (some ⟨Q, 0, none⟩) (l.length + m.length) a6) (l ++ m) [(Q, .cells a7 e (0, 0))] :=
  .inr ⟨Q, a6, a7, by rw [hlen], rfl, by omega, b3, b4, by rw [hlen, c0]; simp⟩
 refine h W' _ _ ?_ b1
 have b9 := p.nd
 rcases hR with ⟨rfl, rfl, rfl⟩ | ⟨g, cap, I, rfl, rfl, q1, q2, q3, q4⟩
 ·-- nil: a new block
  have U : W.heap.size ≤ Q := by
   rcases L with h | h <;> simp [Value.ownBlock] at h
   omega
  have hex : Ex dd W W' := ⟨s.os, s.tape, s.output, sC.of av, s.size, fun b n => s.block b n (by simp [Value.ownBlock])⟩
  have h1 := p.Fi hex
  refine ⟨h1.os, h1.tape, h1.output, h1.drawn, h1.size, h1.ll, h1.mem, fun b o n => ?_, ?_⟩
  ·simp only [aI, aF] at n
   rcases n with n | n | n
   ·exact h1.box b o (by simp [n])
   ·cases n
    refine ⟨aE, ?_, .inl (cn p.size U)⟩
    cases hm : μ Q with
    | none => rfl
    | some x => have := p.Dj hm; omega
   ·exact h1.box b o (by simp [n])
  ·simp only [bt, bi, aQ, de] at b9 ⊢
   refine (eF dK).2 (cu.2 ⟨fun hm => ?_, b9⟩)
   rw [← bi] at hm
   obtain ⟨⟨b, o⟩, n, J⟩ := aR.1 hm
   have c6 : (b, o) ∈ X ++ ([] ++ Y) := by simpa using n
   have := p.Ei c6
   simp at J
   omega
 ·by_cases b5 : Q = g
  ·subst b5
   have M : ST dd F w W μ (X ++ (Q, Obj.cells I e (0, 0)) :: Y) := by simpa using p
   have hold : ∀ b, b < W.heap.size → b ≠ Q → W'.heap[b]? = W.heap[b]? := fun b n G => s.block b n (by simp [Value.ownBlock]; exact G)
   have D := M.nd
   simp only [bi, aQ] at D
   have G : ∀ b o, (b, o) ∈ X ++ Y → b ≠ Q := fun b o n J => by
    subst J
    rcases aI.1 n with n | n
    ·exact (aS.1 D).2.2 b (aR.2 ⟨_, n, rfl⟩) b (by simp) rfl
    ·exact (cu.1 (aS.1 D).2.1).1 (aR.2 ⟨_, n, rfl⟩)
   have O := M.box Q (Obj.cells I e (0, 0)) (by simp)
   refine ⟨s.os.trans p.os, s.tape.trans p.tape, s.output.trans p.output, sC.trans p.drawn (sC.of av), cn p.size s.size, fun b n hF => ?_, fun b o n => ?_, fun b o n => ?_, by simpa using D⟩
   ·rw [hold b (cE n p.size) (fun J => by subst J; rcases O.2.2 with h | h; omega; exact hF h)]
    exact p.ll b n hF
   ·rw [hold b (p.Dj n) (fun J => by subst J; rw [O.2.1] at n; cases n)]
    exact p.mem b o n
   ·simp only [aI, aF] at n
    rcases n with n | n | n
    ·obtain ⟨Z, r2⟩ := p.box b o (by simp [n])
     exact ⟨by rw [hold b (ng Z) (G b o (by simp [n]))]; exact Z, r2⟩
    ·cases n; exact ⟨aE, O.2⟩
    ·obtain ⟨Z, r2⟩ := p.box b o (by simp [n])
     exact ⟨by rw [hold b (ng Z) (G b o (by simp [n]))]; exact Z, r2⟩
  ·have U : W.heap.size ≤ Q := by
    rcases L with h | h <;> simp [Value.ownBlock] at h
    ·exact absurd h b5
    ·omega
   have M : ST dd F w W μ (X ++ (g, Obj.cells I e (0, 0)) :: Y) := by simpa using p
   have O := M.box g (Obj.cells I e (0, 0)) (by simp)
   have D := M.nd
   simp only [bi, aQ] at D
   have G : ∀ b o, (b, o) ∈ X ++ Y → b ≠ g := fun b o n J => by
    subst J
    rcases aI.1 n with n | n
    ·exact (aS.1 D).2.2 b (aR.2 ⟨_, n, rfl⟩) b (by simp) rfl
    ·exact (cu.1 (aS.1 D).2.1).1 (aR.2 ⟨_, n, rfl⟩)
   have hold : ∀ b, b < W.heap.size → b ≠ g → W'.heap[b]? = W.heap[b]? := fun b n G => s.block b n (by simp [Value.ownBlock]; exact G)
   refine ⟨s.os.trans p.os, s.tape.trans p.tape, s.output.trans p.output, sC.trans p.drawn (sC.of av), cn p.size s.size, fun b n hF => ?_, fun b o n => ?_, fun b o n => ?_, ?_⟩
   ·rw [hold b (cE n p.size) (fun J => by subst J; rcases O.2.2 with h | h; omega; exact hF h)]
    exact p.ll b n hF
   ·rw [hold b (p.Dj n) (fun J => by subst J; rw [O.2.1] at n; cases n)]
    exact p.mem b o n
   ·simp only [aI, aF] at n
    rcases n with n | n | n
    ·obtain ⟨Z, r2⟩ := p.box b o (by simp [n])
     exact ⟨by rw [hold b (ng Z) (G b o (by simp [n]))]; exact Z, r2⟩
    ·cases n
     refine ⟨aE, ?_, .inl (cn p.size U)⟩
     cases hm : μ Q with
     | none => rfl
     | some x => have := p.Dj hm; omega
    ·obtain ⟨Z, r2⟩ := p.box b o (by simp [n])
     exact ⟨by rw [hold b (ng Z) (G b o (by simp [n]))]; exact Z, r2⟩
   ·have c5 : (X.map (·.1) ++ Y.map (·.1)).Nodup := (cu.1 ((eF dK).1 D)).2
    simp only [bi, aQ, de]
    refine (eF dK).2 (cu.2 ⟨fun hm => ?_, c5⟩)
    rw [← bi] at hm
    obtain ⟨⟨b, o⟩, n, J⟩ := aR.1 hm
    have := p.Ei (b := b) (o := o) (by rcases aI.1 n with h | h <;> simp [h])
    simp at J
    omega
end
end Go.Proofs.YtbnbdigcbldfhaaGreat
namespace Go.Proofs.YtbnbdigcbldfhaaGreat
open Go.RowKit
def wk (l : List Value) : Nat → Value := fun t => l.getD t undef
def wI (P : Program) (fn : Func) (R : Ending → World → Prop) : mP
 | .normal, E, W | .ret, E, W => ∃ v, (∀ tmps : Array Value, (∀ t, tmps.getD t undef = E t) → (results fn tmps).run P W = .ok v W) ∧ R (.returned v) W
 | _, _, _ => False
theorem xq {P : Program} {f : FuncId} {fn : Func} {c : Code} {args : List Value} {w : World} {R : Ending → World → Prop} {n : Nat} (p : P.funcs[f]? = some fn) (o : fn.body = some c) (s : fn.ntmps = n) (q : args.length ≤ n) (h : CW P n c (wI P fn R) (wk args) w) : Calls P f args.toArray w R := by
 refine calls_of_wp p o ?_
 have j : Ag n { tmps := args.toArray ++ Array.replicate (fn.ntmps - args.toArray.size) undef, defers := [] } (wk args) := by
  refine ⟨by simp; omega, rfl, fun t => ?_⟩
  simp only [wk, bM, ek, dT, eH, bH, dU]
  by_cases m : t < args.length
  ·rw [aj m]
  ·rw [ai m, bR (by omega)]
   split <;> simp
 refine eJ (h _ j) (fun e a u g => ?_)
 cases e with
 | normal =>
  obtain ⟨E, d, v, k, i⟩ := g
  exact ⟨d.2.1, v, k _ d.2.2, i⟩
 | ret =>
  obtain ⟨E, d, v, k, i⟩ := g
  exact ⟨d.2.1, v, k _ d.2.2, i⟩
 | exit id => obtain ⟨E, d, h⟩ := g; exact h.elim
 | goto l => obtain ⟨E, d, h⟩ := g; exact h.elim
 | panic c => exact g.2.elim
 | outgrown => exact g.elim
section
variable {P : Program} {fn : Func} {R : Ending → World → Prop} {E : Nat → Value} {W : World}
theorem jR {r : Tmp} {v : Value} (a : fn.results = #[.tmp r]) (d : E r = v) (h : R (.returned v) W) : wI P fn R .ret E W :=
 ⟨v, fun tmps c => by rw [results_tmp a, c, d], h⟩
theorem rL {r s : Tmp} {v u : Value} (c : fn.results = #[.tmp r, .tmp s]) (d : E r = v) (hu : E s = u) (h : R (.returned (.tuple #[v, u])) W) : wI P fn R .ret E W :=
 ⟨.tuple #[v, u], fun tmps a => by rw [results_tmp2 c, a, a, d, hu], h⟩
theorem sI (a : fn.results = #[]) (h : R (.returned (.tuple #[])) W) : wI P fn R .ret E W :=
 ⟨.tuple #[], fun tmps _ => by rw [results_none a], h⟩
theorem oE {r : Tmp} {t : TypeId} {a : Addr} {v : Value} (c : fn.results = #[.cell r t]) (i : E r = .pointer (some a)) (g : (Instr.loadAt t (.pointer (some a))).run P W = .ok v W) (h : R (.returned v) W) : wI P fn R .ret E W :=
 ⟨v, fun tmps d => by
  have h1 : (loadVar t a).run P W = .ok v W := by simpa [Instr.loadAt, Instr.sureAddr] using g
  simp [results, c, d, i, asAddr, h1], h⟩
theorem tI (h : wI P fn R .ret E W) : wI P fn R .normal E W := h
end
section
variable {Q : mP} {E : Nat → Value} {W : World} {K : (Nat → Value) → World → Prop} {id j : Nat}
theorem jV (h : Q .normal E W) : vI id Q .normal E W := h
theorem kH (h : Q .ret E W) : vI id Q .ret E W := h
theorem sr (h : Q .normal E W) : vI id Q (.exit id) E W := by simp [vI]; exact h
theorem P6 (a : (j = id) = False) (h : Q (.exit j) E W) : vI id Q (.exit j) E W := by simp only [vI, a, aq]; exact h
theorem jj (h : K E W) : pa K Q .normal E W := h
theorem jE (h : Q .ret E W) : pa K Q .ret E W := h
theorem lZ (h : Q (.exit j) E W) : pa K Q (.exit j) E W := h
end
theorem Oy {i N : Nat} (hi : i < N) (a : N ≤ 9223372036854775807) : IntKind.i64.wrap ((i : Int) + 1) = ((i + 1 : Nat) : Int) := by
 rw [IntWalk.i64_in _ (by omega)]
 omega
theorem km {P : Program} {n : Nat} {Q : mP} {E : Nat → Value} {W : World} {g s U Y o p A u : Nat} {t1 t2 t3 t4 t5 t6 t7 : TypeId} {O R T : String} {f1 f2 f3 : Array Edge} {body : Code} (I : Nat → (Nat → Value) → World → Prop) (N : Nat) (J : N ≤ 9223372036854775807) (D : I 0 E W) (L : o < n) (M : u < n) (z : p < n) (G : ∀ i E W, I i E W → E p = .int .i64 (i : Nat) ∧ E A = .int .i64 (N : Nat)) (round : ∀ i E W, i < N → I i E W → CW P n (.block s body) (pa (fun E' W' => E' p = .int .i64 (i : Nat) ∧ I (i + 1) (mu (mu E' u (.int .i64 ((i + 1 : Nat) : Int))) p (.int .i64 ((i + 1 : Nat) : Int))) W') (vI g Q)) (mu E o (.bool true)) W) (done : ∀ E W, I N E W → Q .normal (mu E o (.bool false)) W) :
  CW P n (.block g (.loop (.seq (.region U #[⟨some o, .binOp .lss t1 (.tmp p) (.tmp A) t2, t3, O, f1, none⟩] false)
   (.seq (.cond (.tmp o) .skip (.exit g)) (.seq (.block s body)
    (.region Y #[⟨some u, .binOp .add t4 (.tmp p) (.const (.int .i64 1)) t5, t6, R, f2, none⟩, ⟨some p, .move (.tmp u), t7, T, f3, none⟩] false)))))) Q E W := by
 refine kV (ns (fun m E W => ∃ i, i ≤ N ∧ m = N - i ∧ I i E W) N ⟨0, fg _, by omega, D⟩ ?_)
 rintro m E W ⟨i, hi, rfl, d⟩
 obtain ⟨w, x⟩ := G i E W d
 refine jo (jk (HI (.inl rfl) rfl L (kv w x rfl) (jH ?_)))
 refine jj (jo ?_)
 have t : mu E o (.bool (decide ((i : Int) < (N : Int)))) o = .bool (decide ((i : Int) < (N : Int))) := by simp [mu]
 by_cases q : i < N
 ·have y : decide ((i : Int) < (N : Int)) = true := by simp; omega
  rw [y] at t ⊢
  refine vm t (jW (jj (jo ?_)))
  refine Hz (round i E W q d) (fun e E' W' h => ?_)
  cases e with
  | normal =>
   obtain ⟨h1, F⟩ := h
   refine jj ?_
   have hw : IntKind.i64.wrap ((i : Int) + 1) = ((i + 1 : Nat) : Int) := Oy q J
   refine jk (HI (v := .int .i64 ((i + 1 : Nat) : Int)) (.inl rfl) rfl M (kv (k := .i64) (a := (i : Int)) (b := 1) h1 rfl (by simp only [I6, hw])) ?_)
   refine HI (v := .int .i64 ((i + 1 : Nat) : Int)) (.inl rfl) rfl z (jl (by simp [ji, mu])) (jH ?_)
   exact jj ⟨N - (i + 1), by omega, i + 1, by omega, rfl, F⟩
  | exit j => exact h
  | goto l => exact h
  | ret => exact h
  | panic c => exact h
  | outgrown => exact h
 ·have y : decide ((i : Int) < (N : Int)) = false := by simp; omega
  rw [y] at t ⊢
  obtain rfl : i = N := by omega
  refine oO t (mI (lZ (lZ (sr ?_))))
  exact done E W d
theorem OJ {P : Program} {n : Nat} {x : Code} {Q : mP} {K : (Nat → Value) → World → Prop} {E : Nat → Value} {W : World} (J : (Nat → Value) → World → Prop) (h : CW P n x (pa J Q) E W) (k : ∀ E W, J E W → K E W) : CW P n x (pa K Q) E W :=
 Hz h (fun e E W h => by cases e <;> first | exact k E W h | exact h)
theorem R7 {α : Type} {c : Bool} {x y r : α} (a : c = true) (h : (if c = true then x else y) = r) : x = r := by rw [aj a] at h; exact h
theorem Sc {α : Type} {c : Bool} {x y r : α} (a : c = false) (h : (if c = true then x else y) = r) : y = r := by rw [ai (by rw [a]; decide)] at h; exact h
theorem bind_some {α β : Type} {o : Option α} {f : α → Option β} {r : β} (h : o.bind f = some r) : ∃ y, o = some y ∧ f y = some r := by
 cases o with
 | none => cases h
 | some y => exact ⟨y, rfl, h⟩
theorem NG (b : Bool) : b = true ∨ b = false := by cases b <;> simp
theorem jY {α : Type} {l : List α} {i : Nat} (h : i < l.length) : ∃ x xs, l.drop i = x :: xs ∧ l[i]? = some x ∧ l.drop (i + 1) = xs := by
 cases a : l.drop i with
 | nil => have := ay List.length a; simp at this; omega
 | cons x xs => exact ⟨x, xs, rfl, by rw [← List.head?_drop, a]; rfl, by rw [← List.drop_drop, a]; rfl⟩
theorem yp {P : Program} {W : World} (d : Nat) (xs ys : Array Value) : (Op.eqFields d xs ys []).run P W = .ok true W := by simp [Op.eqFields]
theorem nh {P : Program} {W : World} {d : Nat} {xs ys : Array Value} {f : Field} {c : List Field} {a b : Value} {r s : Bool} (j : f.name ≠ "_") (g : (part f.type xs f.offset).run P W = .ok a W) (i : (part f.type ys f.offset).run P W = .ok b W) (he : (Op.equalIn d f.type a b).run P W = .ok r W) (h : (Op.eqFields d xs ys c).run P W = .ok s W) : (Op.eqFields d xs ys (f :: c)).run P W = .ok (r && s) W := by
 simp only [Op.eqFields, ne_eq, j, not_false_eq_true, aD, aZ, g, i, he, aN]
 cases r <;> simp [h]
theorem rf {P : Program} {W : World} {t : TypeId} {k : Nat} {cs : Array Value} {off : Nat} {v : Array Value} (a : ∀ w, (isAgg t).run P w = .ok true w) (c : ∀ w, (sizeOf t).run P w = .ok k w) (d : cs.extract off (off + k) = v) : (part t cs off).run P W = .ok (.agg v) W := by
 simp [part, a W, c W, d]
theorem oM {P : Program} {W : World} {t : TypeId} {cs : Array Value} {off : Nat} {v : Value} (a : ∀ w, (isAgg t).run P w = .ok false w) (c : cs[off]? = some v) : (part t cs off).run P W = .ok v W := by
 simp [part, a W, c]
def ke (a b : ByteArray) : Bool := a.toList == b.toList
theorem Oa {P : Program} {t : TypeId} (c : P.underlying t = some .string) (d : Nat) (a b : ByteArray) (W : World) : (Op.equalIn (d + 1) t (.string a) (.string b)).run P W = .ok (ke a b) W := run_equalIn_string W d t a b c
theorem Ux {P : Program} {t : TypeId} {k : IntKind} (c : P.underlying t = some (.int k)) (d : Nat) (a b : Int) (W : World) : (Op.equalIn (d + 1) t (.int k a) (.int k b)).run P W = .ok (a == b) W := run_equalIn_int W d t k k a b c
theorem lN {P : Program} {op : BinOp} {t : TypeId} {x y : Operand} {a b : Array Value} (c : P.eqGuardType P.depth t = false) (W : World) : (eqGuard op t x y (.agg a) (.agg b)).run P W = .ok () W := by
 cases op <;> simp [eqGuard] <;> (intro h; rw [c] at h; cases h)
theorem qK {P : Program} {t : TypeId} {a b : Array Value} {r : Bool} (h : ∀ W, (Op.equalIn Op.maxDepth t (.agg a) (.agg b)).run P W = .ok r W) (W : World) : (binOp .eql t (.agg a) (.agg b)).run P W = .ok (.bool r) W := by
 simp [binOp, Op.equal, h W]
theorem xZ {P : Program} {t : TypeId} {a b : Array Value} {r : Bool} (h : ∀ W, (Op.equalIn Op.maxDepth t (.agg a) (.agg b)).run P W = .ok r W) (W : World) : (binOp .neq t (.agg a) (.agg b)).run P W = .ok (.bool !r) W := by
 simp [binOp, Op.equal, h W]
variable {dd : Bool}
def jS (k : IntKind) (x : Int) : List Value := [.int k x]
def Nk (x : Bool) : List Value := [.bool x]
def mL (x : ByteArray) : List Value := [.string x]
theorem wj (k : IntKind) (x : Int) : ∀ u ∈ jS k x, u.oneCell' = true := by intro u hu; simp [jS] at hu; subst hu; rfl
theorem T4 (x : Bool) : ∀ u ∈ Nk x, u.oneCell' = true := by intro u hu; simp [Nk] at hu; subst hu; rfl
theorem An (x : ByteArray) : ∀ u ∈ mL x, u.oneCell' = true := by intro u hu; simp [mL] at hu; subst hu; rfl
def zS : ByteArray := ⟨#[]⟩
def oQ (a b : ByteArray) : Bool := Op.bytesLess a.toList b.toList
@[irreducible] def jX : Nat := 18446744073709551616
theorem nG : jX = 18446744073709551616 := by unfold jX; rfl
def kN {α : Type} (l : List α) (i : Int) : Option α := if 0 ≤ i then l[i.toNat]? else none
theorem kL {α : Type} {l : List α} {i : Int} {x : α} (h : kN l i = some x) : 0 ≤ i := by
 unfold kN at h; split at h
 ·assumption
 ·cases h
theorem kq {α : Type} {l : List α} {i : Int} {x : α} (h : kN l i = some x) : l[i.toNat]? = some x := by
 unfold kN at h; split at h
 ·exact h
 ·cases h
theorem Hx {α : Type} (l : List α) (i : Nat) : kN l (i : Int) = l[i]? := by simp [kN]
def yX (s : ByteArray) (i : Int) : Option UInt8 := if 0 ≤ i then s[i.toNat]? else none
theorem xp {s : ByteArray} {i : Int} {x : UInt8} (h : yX s i = some x) : 0 ≤ i := by
 unfold yX at h; split at h
 ·assumption
 ·cases h
theorem Bg {s : ByteArray} {i : Int} {x : UInt8} (h : yX s i = some x) : s[i.toNat]? = some x := by
 unfold yX at h; split at h
 ·exact h
 ·cases h
section
variable {F : Nat → Prop} {w W : World} {μ : jF} {L L' : List (Nat × Obj)} {α : Type} {e : TypeId} {enc : α → List Value} {k : Nat} {v : Value} {l : List α} {R : List (Nat × Obj)}
theorem ST.at_ (h : ST dd F w W μ L) {b : Nat} {o : Obj} (a : (b, o) ∈ L) : hp W b = some o := (h.box b o a).1
theorem jy.Sh (h : jy e enc k v l R) (hk : ∀ x, (enc x).length = k) (a : ST dd F w W μ L) (c : ∀ p, p ∈ R → p ∈ L) : Sl (Pl enc) k (hp W) v l :=
 h.sl hk (fun _ _ d => a.at_ (c _ d))
theorem jy.form (h : jy e enc k v l R) : ∃ A c, v = .slice A l.length c := by
 rcases h with ⟨rfl, rfl, rfl⟩ | ⟨g, cap, a, rfl, rfl, h1, d, i, j⟩
 ·exact ⟨_, _, rfl⟩
 ·exact ⟨_, _, rfl⟩
theorem Sl.form {R : qa α} (h : Sl R k μ v l) : ∃ A c, v = .slice A l.length c := let ⟨A, c, h, _⟩ := h; ⟨A, c, h⟩
theorem jy.NX (h : jy e enc k v l R) (c : ST dd jT w W μ L) (i : ∀ p, p ∈ R → p ∈ L) : Fr w.heap.size v := by
 rcases h with ⟨rfl, rfl, rfl⟩ | ⟨g, cap, a, rfl, rfl, h1, j, m, n⟩
 ·exact Fr.nil _
 ·intro b d
  simp [Value.ownBlock] at d
  subst d
  rcases (c.box g (.cells a e (0, 0)) (i _ (aF.2 rfl))).2.2 with h | h
  ·exact h
  ·exact h.elim
theorem Sl.lit {b m : Nat} {cs : Array Value} (hk : ∀ x, (enc x).length = k) (hm : l.length = m) (c : m ≤ maxLen) (a : cs.toList = (l.map enc).flatten) (d : μ b = some (.cells cs e (0, 0))) : Sl (Pl enc) k μ (.slice (some ⟨b, 0, none⟩) m m) l :=
 (jy.lit (e := e) (b := b) hm c a (by have := ay List.length a; rw [nY hk, bL, hm] at this; exact this)).sl hk (fun g o h => by simp at h; obtain ⟨rfl, rfl⟩ := h; exact d)
theorem Fr.box (h : ST dd jT w W μ L) {b m c : Nat} {o : Obj} (d : (b, o) ∈ L) : Fr w.heap.size (.slice (some ⟨b, 0, none⟩) m c) := by
 intro g a
 simp [Value.ownBlock] at a
 subst a
 rcases (h.box b o d).2.2 with h | h
 ·exact h
 ·exact h.elim
theorem ST.perm (h : ST dd F w W μ L) (hp : L.Perm L') : ST dd F w W μ L' :=
 ⟨h.os, h.tape, h.output, h.drawn, h.size, h.ll, h.mem, fun b o a => h.box b o (hp.mem_iff.2 a), (hp.map _).nodup_iff.1 h.nd⟩
theorem ST.sublist (h : ST dd F w W μ L) (a : L'.Sublist L) : ST dd F w W μ L' :=
 ⟨h.os, h.tape, h.output, h.drawn, h.size, h.ll, h.mem, fun b o c => h.box b o (a.subset c), h.nd.sublist (a.map _)⟩
end
section
variable {E : Nat → Value} {x1 x2 x3 x4 x5 x6 : Operand} {v1 v2 v3 v4 v5 v6 : Value}
theorem ny (h1 : ji E x1 = v1) : #[x1].map (ji E) ++ (#[] : Array Value) = [v1].toArray := by simp [h1]
theorem og (h1 : ji E x1 = v1) (a : ji E x2 = v2) : #[x1, x2].map (ji E) ++ (#[] : Array Value) = [v1, v2].toArray := by simp [h1, a]
theorem TA (h1 : ji E x1 = v1) (a : ji E x2 = v2) (c : ji E x3 = v3) : #[x1, x2, x3].map (ji E) ++ (#[] : Array Value) = [v1, v2, v3].toArray := by simp [h1, a, c]
theorem TC (h1 : ji E x1 = v1) (a : ji E x2 = v2) (c : ji E x3 = v3) (d : ji E x4 = v4) : #[x1, x2, x3, x4].map (ji E) ++ (#[] : Array Value) = [v1, v2, v3, v4].toArray := by simp [h1, a, c, d]
end
theorem Ib : ∀ (v : List Value) (i off : Nat) (cells : Array Value), off + i + v.length ≤ cells.size →
  (v.zipIdx i).foldl (fun cs (c, j) => cs.setIfInBounds (off + j) c) cells = (cells.toList.take (off + i) ++ v ++ cells.toList.drop (off + i + v.length)).toArray
 | [], i, off, cells, h => by simp
 | c :: v, i, off, cells, h => by
  simp only [List.zipIdx_cons, List.foldl_cons]
  simp only [aA] at h
  rw [Ib v (i + 1) off _ (by simp; omega)]
  have g : off + i < cells.toList.length := by simp; omega
  congr 1
  rw [Array.toList_setIfInBounds]
  apply cz
  intro j
  have k : (cells.toList.take (off + i)).length = off + i := by simp; omega
  by_cases h1 : j < off + i
  ·simp only [ei, ah, bx, gk, bL, aA, ct, dB, cq]
   rw [show min (off + (i + 1)) cells.size = off + (i + 1) by omega, show min (off + i) cells.size = off + i by omega]
   rw [aj (by omega), aj (by omega), aj (by omega), ai (by omega), aj (by omega), aj (by omega), aj (by omega)]
  ·by_cases d : j = off + i
   ·subst d
    simp [ei, ct, dB, show off + i < off + (i + 1) by omega]
    rw [aj (by omega), aj (by omega), ai (by omega), show off + i - min (off + i) cells.size = 0 by omega]
    rfl
   ·simp only [ei, ah, bx, gk, bL, aA, ct, dB, cq]
    rw [show min (off + (i + 1)) cells.size = off + (i + 1) by omega, show min (off + i) cells.size = off + i by omega]
    by_cases a : j < off + (i + 1) + v.length
    ·rw [aj a, ai (by omega), aj (by omega), ai (by omega)]
     rw [show j - (off + i) = (j - (off + (i + 1))) + 1 by omega]
     simp
    ·rw [ai a, ai (by omega), ai (by omega)]
     congr 1
     omega
theorem Kw {k : Nat} : ∀ (vs : List Value) (i : Nat) (pre rest : List Value), (∀ v ∈ vs, v.cells.size = k) → pre.length = i * k → rest.length = vs.length * k →
  Instr.fill (fun i => some (i * k, k)) (pre ++ rest).toArray ((vs.zipIdx i).map (fun p => (p.2, p.1))) = some (pre ++ vs.flatMap (fun v => v.cells.toList)).toArray
 | [], i, pre, rest, g, hp, d => by
  have : rest = [] := by cases rest <;> simp at d ⊢
  simp [Instr.fill, this]
 | v :: vs, i, pre, rest, g, hp, d => by
  have a := g v (by simp)
  have h : v.cells.zipIdx.foldl (fun cs (c, j) => cs.setIfInBounds (i * k + j) c) (pre ++ rest).toArray = (pre ++ v.cells.toList ++ rest.drop k).toArray := by
   have := Ib v.cells.toList 0 (i * k) (pre ++ rest).toArray (by simp [hp, d, a, bo])
   rw [← Array.toList_zipIdx, Array.foldl_toList] at this
   rw [this]
   congr 1
   simp [← hp, a]
  simp only [List.zipIdx_cons, aQ, Instr.fill]
  rw [ai (by simp [a, hp, d, bo]), h]
  have := Kw vs (i + 1) (pre ++ v.cells.toList) (rest.drop k) (fun u hu => g u (by simp [hu])) (by simp [hp, a, bo]) (by simp [d, bo])
  rw [this]
  simp
theorem Pn {k m : Nat} {a cs : Array Value} {c : Array (Nat × Value)} (vs : List Value) (g : c.toList = vs.zipIdx.map (fun p => (p.2, p.1))) (j : ∀ v ∈ vs, v.cells.size = k) (hm : vs.length = m) (h : a.size = m * k) (d : (vs.flatMap (fun v => v.cells.toList)).toArray = cs) : Instr.fill (fun i => some (i * k, k)) a c.toList = some cs := by
 subst hm d
 rw [g]
 have := Kw vs 0 [] a.toList j (by simp) (by simpa using h)
 simpa using this
theorem Dc {P : Program} {t e : TypeId} {m k : Nat} {z : Value} {a : Array (Nat × Value)} {cs : Array Value} (vs : List Value) (i : P.underlying t = some (.slice e)) (h : ∀ w, (sizeOf e).run P w = .ok k w) (n : ∀ w, (zeroValue e).run P w = .ok z w) (hm : m * k ≤ 16777216) (g : a.toList = vs.zipIdx.map (fun p => (p.2, p.1))) (j : ∀ v ∈ vs, v.cells.size = k) (d : vs.length = m) (c : (vs.flatMap (fun v => v.cells.toList)).toArray = cs) (W : World) :
  (Instr.buildSlice t m a).run P W = .ok (.slice (some ⟨W.heap.size, 0, none⟩) m m) (W.alloc (.cells cs e (0, 0))) :=
 Hv i h n hm (Pn vs g j d (by simp) c) W
theorem sG {E : Nat → Value}  : (#[] : Array (Nat × Operand)).map (fun (i, x) => (i, ji E x)) = #[] := by simp
theorem mf {E : Nat → Value} {x0 : Operand} {v0 : Value} {i0 : Nat} (a : ji E x0 = v0) : (#[(i0, x0)] : Array (Nat × Operand)).map (fun (i, x) => (i, ji E x)) = #[(i0, v0)] := by simp [a]
theorem nB {E : Nat → Value} {x0 x1 : Operand} {v0 v1 : Value} {i0 i1 : Nat} (a : ji E x0 = v0) (h1 : ji E x1 = v1) : (#[(i0, x0), (i1, x1)] : Array (Nat × Operand)).map (fun (i, x) => (i, ji E x)) = #[(i0, v0), (i1, v1)] := by simp [a, h1]
theorem O2 {E : Nat → Value} {x0 x1 x2 : Operand} {v0 v1 v2 : Value} {i0 i1 i2 : Nat} (a : ji E x0 = v0) (h1 : ji E x1 = v1) (c : ji E x2 = v2) : (#[(i0, x0), (i1, x1), (i2, x2)] : Array (Nat × Operand)).map (fun (i, x) => (i, ji E x)) = #[(i0, v0), (i1, v1), (i2, v2)] := by simp [a, h1, c]
theorem Ot {E : Nat → Value} {x0 x1 x2 x3 : Operand} {v0 v1 v2 v3 : Value} {i0 i1 i2 i3 : Nat} (a : ji E x0 = v0) (h1 : ji E x1 = v1) (c : ji E x2 = v2) (d : ji E x3 = v3) : (#[(i0, x0), (i1, x1), (i2, x2), (i3, x3)] : Array (Nat × Operand)).map (fun (i, x) => (i, ji E x)) = #[(i0, v0), (i1, v1), (i2, v2), (i3, v3)] := by simp [a, h1, c, d]
theorem kD {P : Program} {t : TypeId} {f off : Nat} {a : Array Field} {fd : Field} (h : P.underlying t = some (.struct a)) (c : a[f]? = some fd) {k : Nat} (g : ∀ w, (sizeOf fd.type).run P w = .ok k w) (hk : k ≠ 0) (d : fd.offset = off) : kY P t f off := by
 intro b o w
 subst d
 simp [Instr.fieldAt, ar h, c, Instr.sureAddr, fieldPlace, bV, g w, hk]
theorem Ag.MT {n : Nat} {a : Act} {E : Nat → Value} (h : Ag n a E) {ops : Array Oper} {j t : Nat} (d : (ops[j]?).bind (·.dst) = some t) (i : t < n) (k : E t = undef) : yielded ops a.tmps j = none := by
 have c := h.2.2 t
 have g : a.tmps[t]? = some (E t) := by
  rw [← c]
  simp [bM, h.1, i]
 simp [yielded, d, g, k, undef]
theorem Se {P : Program} {n : Nat} {Q : mP} {E : Nat → Value} {W : World} {ops : Array Oper} {rest : List Oper} {o : Oper} {d j t : Nat} {want : Bool} (i : o.dst = some d) (p : d < n) (k : o.guard = some (j, want)) (m : (ops[j]?).bind (·.dst) = some t) (q : t < n) (g : E t = undef) (h : LW P n ops Q rest (mu E d undef) W) : LW P n ops Q (o :: rest) E W := fun a c => by
 unfold wpList
 have s := c.MT m q g
 rw [ai (by simp [Region.wanted, k, s])]
 rw [i]
 exact h _ (c.put p _)
theorem SR {P : Program} {n : Nat} {Q : mP} {E : Nat → Value} {W : World} {ops : Array Oper} {rest : List Oper} {A : Value → Prop} {o : Oper} {dd : Nat} (hw : lV n ops E o) (c : o.dst = some dd) (d : dd < n) (g : ∃ p, A p ∧ ∀ W, kA P E o W p W) (h : ∀ p, A p → LW P n ops Q rest (mu E dd p) W) : LW P n ops Q (o :: rest) E W := by
 obtain ⟨p, h1, a⟩ := g
 exact HI hw c d (a W) (h p h1)
end Go.Proofs.YtbnbdigcbldfhaaGreat
namespace Go.Proofs.YtbnbdigcbldfhaaGreat
open Go.RowKit
variable {dd : Bool}
theorem zn {P : Program} {n : Nat} {x : Code} {Q : mP} {E : Nat → Value} {W : World} (h : CW P n x (pa (fun E W => Q .normal E W) Q) E W) : CW P n x Q E W :=
 Hz h (fun e E W h => by cases e <;> exact h)
section
variable {P : Program} {n : Nat} {Q : mP} {E : Nat → Value} {W : World} {d : Option Nat} {ty : TypeId} {pos : String} {af : Array Edge} {g : Option (Nat × Bool)}
 {F : Nat → Prop} {w : World} {μ : jF} {L : List (Nat × Obj)}
def QF (k : IntKind) (op : BinOp) (a b : Int) : Option Value :=
 match op with
 | .quo => some (.int k (k.wrap (a.tdiv b)))
 | .rem => some (.int k (a.tmod b))
 | .and => some (.int k (k.wrap (BitVec.ofInt k.bits a &&& BitVec.ofInt k.bits b).toNat))
 | .or => some (.int k (k.wrap (BitVec.ofInt k.bits a ||| BitVec.ofInt k.bits b).toNat))
 | _ => none
theorem Dt {op : BinOp} {tx tv : TypeId} {x y : Operand} {k : IntKind} {a b : Int} {v : Value} (i : ji E x = .int k a) (j : ji E y = .int k b) (h : b ≠ 0) (c : QF k op a b = some v) :
  kA P E ⟨d, .binOp op tx x y tv, ty, pos, af, g⟩ W v W := by
 show (do let r ← (do eqGuard op tx x y (ji E x) (ji E y); binOp op tx (ji E x) (ji E y)); pure (.value r) : Sem Next).run P W = _
 rw [i, j]
 cases op <;> simp [QF] at c <;> subst c <;> simp [eqGuard, binOp, Op.intDiv, Op.intBits, h]
theorem NE {tx tv : TypeId} {x y : Operand} {k k' : IntKind} {a b : Int} (c : ji E x = .int k a) (h : ji E y = .int k' b) (i : 0 ≤ b) :
  kA P E ⟨d, .binOp .shr tx x y tv, ty, pos, af, g⟩ W (.int k (a.fdiv (2 ^ min b.toNat k.bits))) W := by
 show (do let r ← (do eqGuard .shr tx x y (ji E x) (ji E y); binOp .shr tx (ji E x) (ji E y)); pure (.value r) : Sem Next).run P W = _
 rw [c, h]
 simp [eqGuard, binOp, Op.shift, show ¬ b < 0 by omega]
theorem yd {s t : TypeId} {x : Operand} {k k' : IntKind} {a : Int} {u : TypeDesc} (c : P.underlying s = some u) (h : P.underlying t = some (.int k)) (i : ji E x = .int k' a) :
  kA P E ⟨d, .convert s t x, ty, pos, af, g⟩ W (.int k (k.wrap a)) W := by
 show (do pure (.value (← convert s t (ji E x))) : Sem Next).run P W = _
 rw [i]
 simp [convert, ar c, ar h, Conv.intToInt]
theorem HC {t e : TypeId} (dd : Nat) (a : P.underlying t = some (.slice e)) (A : Option Addr) (l c : Nat) (W : World) : (Op.equalIn (dd + 1) t (.slice A l c) (.slice none 0 0)).run P W = .ok A.isNone W := by
 cases A <;> simp [Op.equalIn, ar a]
theorem BC {tx tv e : TypeId} {x y : Operand} {A : Option Addr} {l c : Nat} (h : P.underlying tx = some (.slice e)) (i : ji E x = .slice A l c) (j : ji E y = .slice none 0 0) :
  kA P E ⟨d, .binOp .eql tx x y tv, ty, pos, af, g⟩ W (.bool A.isNone) W := by
 show (do let r ← (do eqGuard .eql tx x y (ji E x) (ji E y); binOp .eql tx (ji E x) (ji E y)); pure (.value r) : Sem Next).run P W = _
 rw [i, j]
 have a := HC 9999 h A l c W
 simp [eqGuard, binOp, Op.equal, show Op.maxDepth = 9999 + 1 from rfl, a]
def sE (s : ByteArray) : List Int := s.data.toList.map (fun b => (b.toNat : Int))
def CZ (s : ByteArray) : Option (List Int) := if s.size ≤ maxLen then some (sE s) else none
theorem lQ (s : ByteArray) : (sE s).length = s.size := by simp only [sE, cP, bL]; rfl
theorem Nx {s : ByteArray} {cap i : Nat} {x : Int} (h : (sE s)[i]? = some x) : (bytesRow s cap)[i]? = some (.int .u8 x) := by
 have hi : i < s.size := by have := (aH.1 h).1; rwa [lQ] at this
 have a : i < s.data.size := hi
 simp [sE] at h
 obtain ⟨b, c, rfl⟩ := h
 rw [bytesRow, Array.getElem?_append_left (by simpa using a)]
 simp [c]
theorem Ix {K : Value → World → Prop} {s t e : TypeId} {x : Operand} {str : ByteArray} {l : List Int} (c : ST dd F w W μ L) (p : P.underlying s = some .string) (o : P.underlying t = some (.slice e)) (he : P.underlying e = some (.int .u8)) (m : ji E x = .string str) (a : CZ str = some l) (h : ∀ W' v μ', ST dd F w W' μ' L → jC μ μ' → Lo F w μ μ' → Sl (Pl (jS .u8)) 1 μ' v l → Fr w.heap.size v → K v W') : mg P E ⟨d, .convert s t x, ty, pos, af, g⟩ W K := by
 unfold CZ at a
 split at a
 case isFalse => cases a
 rename_i hm
 cases a
 have k := run_bytes_of_string (P := P) W s t e str p o he
 have h1 := c.drew.alloc (.cells (bytesRow str (grownCap W str.size 0 e)) e ((bytesRow str (grownCap W str.size 0 e)).size, (bytesRow str (grownCap W str.size 0 e)).size + 1))
 refine .inl ⟨.slice (some ⟨W.heap.size, 0, none⟩) str.size (grownCap W str.size 0 e), _, ?_, h _ _ _ (ST.HP (A := []) h1) (ST.Hy (A := []) h1) (ST.ON (A := []) h1) ?_ ?_⟩
 ·show (do pure (.value (← convert s t (ji E x))) : Sem Next).run P W = _
  rw [m]
  simp only [aZ, k, aN, bQ]
 ·refine ⟨_, grownCap W str.size 0 e, by rw [lQ], by rw [lQ]; exact grownCap_ge W str.size 0 e, gC W str.size 0 e hm, fun _ => ⟨W.heap.size, 0, bytesRow str (grownCap W str.size 0 e), e, _, rfl, aj rfl, fun i x m => ⟨_, rfl, rfl, fun j y n => ?_⟩⟩⟩
  cases j with
  | zero => simp [jS] at n; subst n; simpa using Nx m
  | succ j => simp [jS] at n
 ·intro b a
  simp [Value.ownBlock] at a
  subst a
  exact c.size
def vY (l : List Int) : ByteArray := l.foldl (fun r n => r.push (UInt8.ofNat n.toNat)) ByteArray.empty
theorem CP {s t e : TypeId} {x : Operand} {v : Value} {l : List Int} (z : P.underlying s = some (.slice e)) (he : P.underlying e = some (.int .u8)) (y : P.underlying t = some .string) (F : ji E x = v) (D : Sl (Pl (jS .u8)) 1 (hp W) v l) :
  kA P E ⟨d, .convert s t x, ty, pos, af, g⟩ W (.string (vY l)) W := by
 show (do pure (.value (← convert s t (ji E x))) : Sem Next).run P W = _
 obtain ⟨A, c, rfl, G, I, p⟩ := D
 rw [F]
 simp only [aZ, run_convert_bytes_string W s t e A l.length c z he y]
 rcases cH l.length with h | h
 ·have : l = [] := cA.1 h
  subst this
  cases A with
  | none => simp [Conv.bytesToString, vY]
  | some a =>
   have q := run_bytesToString (P := P) W a 0 c [] (by simpa using gB (P := P) W a [] (by simp))
   simp only [bG]
   rw [q]
   simp [vY]
 ·obtain ⟨b, off, cs, T, fr, rfl, u, w⟩ := p h
  have o := gB (P := P) W ⟨b, off, none⟩ (l.map (Value.int .u8)) (fun j v n => by
   simp at n
   obtain ⟨x, k, rfl⟩ := n
   obtain ⟨ys, _, m, i⟩ := w j x k
   cases m
   rw [bV, ee W b (off + j) cs T fr u]
   have := i 0 (.int .u8 x) rfl
   simpa using this)
  simp only [cP] at o
  rw [run_bytesToString W _ l.length c l o]
  simp [vY]
end
end Go.Proofs.YtbnbdigcbldfhaaGreat
namespace Go.Proofs.YtbnbdigcbldfhaaGreat
open Go.RowKit
variable {dd : Bool}
def keys (L : List (Nat × Obj)) : Nat → Prop := fun b => ∃ o, (b, o) ∈ L
structure Uu (dd : Bool) (F : Nat → Prop) (w W : World) : Prop where
 os : W.os = w.os
 tape : W.tape = w.tape
 output : W.output = w.output
 drawn : sC dd w.drawn W.drawn
 size : w.heap.size ≤ W.heap.size
 ll : ∀ b, b < w.heap.size → ¬ F b → W.heap[b]? = w.heap[b]?
def Cs (L : List (Nat × Obj)) (W : World) : Prop := ∀ b o, (b, o) ∈ L → W.heap[b]? = some o
structure qF (dd : Bool) (L0 L1 : List (Nat × Obj)) (w w' : World) : Prop where
 ex : Uu dd (keys L0) w w'
 held : ∀ b o, (b, o) ∈ L1 → w'.heap[b]? = some o ∧ (w.heap.size ≤ b ∨ keys L0 b)
 nd : (L1.map (·.1)).Nodup
open Classical in
noncomputable def qH (w : World) (L : List (Nat × Obj)) : jF := fun b => if keys L b then none else w.heap[b]?
open Classical in
noncomputable def BV (μ : jF) (W W' : World) (L1 : List (Nat × Obj)) : jF := fun b => if b < W.heap.size then μ b else if keys L1 b then none else W'.heap[b]?
section
variable {F : Nat → Prop} {w W W' : World} {μ μ' : jF} {L L0 L1 : List (Nat × Obj)}
theorem ST.Sv (a : Cs L0 w) (c : (L0.map (·.1)).Nodup) : ST dd (keys L0) w w (qH w L0) L0 :=
 ⟨rfl, rfl, rfl, sC.of (aM _), aM _, fun _ _ _ => rfl, fun b o h => by
  unfold qH at h; split at h
  ·cases h
  ·exact h, fun b o h => ⟨a b o h, by unfold qH; rw [aj ⟨o, h⟩], .inr ⟨o, h⟩⟩, c⟩
theorem ST.R4 (h : ST dd (keys L0) w W μ L1) : qF dd L0 L1 w W :=
 ⟨⟨h.os, h.tape, h.output, h.drawn, h.size, h.ll⟩, fun b o a => ⟨(h.box b o a).1, (h.box b o a).2.2⟩, h.nd⟩
theorem Fh {A B : List (Nat × Obj)} (h : ((A ++ B).map (·.1)).Nodup) {b : Nat} {o : Obj} (a : (b, o) ∈ B) : ¬ keys A b := by
 rintro ⟨d, c⟩
 rw [bi] at h
 exact (aS.1 h).2.2 b (aR.2 ⟨_, c, rfl⟩) b (aR.2 ⟨_, a, rfl⟩) rfl
theorem ST.back (h : ST dd F w W μ (L0 ++ L)) (j : qF dd L0 L1 W W') : ST dd F w W' (BV μ W W' L1) (L1 ++ L) := by
 have hk : ∀ b, keys L0 b → b < W.heap.size ∧ μ b = none ∧ (w.heap.size ≤ b ∨ F b) := fun b ⟨o, d⟩ => by
  obtain ⟨h1, g, n⟩ := h.box b o (aW _ d)
  exact ⟨ng h1, g, n⟩
 refine ⟨j.ex.os.trans h.os, j.ex.tape.trans h.tape, j.ex.output.trans h.output, sC.trans h.drawn j.ex.drawn, cn h.size j.ex.size, fun b i p => ?_, fun b o d => ?_, fun b o d => ?_, ?_⟩
 ·rw [j.ex.ll b (cE i h.size) (fun k => by
   rcases (hk b k).2.2 with h | h
   ·omega
   ·exact p h)]
  exact h.ll b i p
 ·unfold BV at d
  split at d
  ·rename_i i
   rw [j.ex.ll b i (fun k => by rw [(hk b k).2.1] at d; cases d)]
   exact h.mem b o d
  ·split at d
   ·cases d
   ·exact d
 ·rcases aI.1 d with d | d
  ·obtain ⟨h1, g⟩ := j.held b o d
   refine ⟨h1, ?_, ?_⟩
   ·unfold BV
    split
    ·rename_i i
     rcases g with g | g
     ·omega
     ·exact (hk b g).2.1
    ·rw [aj ⟨o, d⟩]
   ·rcases g with g | g
    ·exact .inl (cn h.size g)
    ·exact (hk b g).2.2
  ·obtain ⟨h1, g, n⟩ := h.box b o (bU _ d)
   refine ⟨?_, ?_, n⟩
   ·rw [j.ex.ll b (ng h1) (Fh h.nd d)]; exact h1
   ·unfold BV; rw [aj (ng h1)]; exact g
 ·rw [bi]
  have s : (L.map (·.1)).Nodup := by have := h.nd; rw [bi] at this; exact (aS.1 this).2.1
  refine aS.2 ⟨j.nd, s, fun a t c u e => ?_⟩
  subst e
  obtain ⟨⟨b, o⟩, d, rfl⟩ := aR.1 t
  obtain ⟨⟨q, v⟩, m, e⟩ := aR.1 u
  simp at e; subst e
  have i := h.Ei (bU _ m)
  rcases (j.held q o d).2 with g | g
  ·omega
  ·exact Fh h.nd m g
theorem ST.KE (h : ST dd F w W μ L) (W' : World) (L1 : List (Nat × Obj)) : Lo F w μ (BV μ W W' L1) := fun b a _ => aj (cE a h.size)
theorem ST.H8 (h : ST dd F w W μ L) (W' : World) (L1 : List (Nat × Obj)) : jC μ (BV μ W W' L1) := fun b o a => by
 unfold BV; rw [aj (h.Dj a)]; exact a
theorem ST.kf (h : ST dd F w W μ L) (c : ∀ p, p ∈ L0 → p ∈ L) : jC μ (qH W L0) := fun b o a => by
 unfold qH
 rw [ai]
 ·exact h.mem b o a
 ·rintro ⟨g, d⟩
  rw [(h.box b g (c _ d)).2.1] at a
  cases a
theorem qF.I8 (h : Ex dd w W) (c : ∀ b o, (b, o) ∈ L1 → W.heap[b]? = some o ∧ w.heap.size ≤ b) (d : (L1.map (·.1)).Nodup) : qF dd [] L1 w W :=
 ⟨⟨h.os, h.tape, h.output, h.drawn, h.size, fun b a _ => h.ll b a⟩, fun b o a => ⟨(c b o a).1, .inl (c b o a).2⟩, d⟩
end
def ki (dd : Bool) (P : Program) (f : FuncId) (args : List Value) (w : World) (L0 : List (Nat × Obj)) (K : Value → List (Nat × Obj) → World → Prop) : Prop :=
 Calls P f args.toArray w fun e a => ∃ v L1, e = .returned v ∧ qF dd L0 L1 w a ∧ K v L1 a
def kw (dd : Bool) {α : Type} (P : Program) (f : FuncId) (args : List Value) (w : World) (e : TypeId) (enc : α → List Value) (k : Nat) (l : List α) : Prop :=
 ki dd P f args w [] fun v R _ => jy e enc k v l R
theorem qF.kI {L0 L1 : List (Nat × Obj)} {w a : World} (h : qF true L0 L1 w a) : qF dd L0 L1 w a := ⟨⟨h.ex.os, h.ex.tape, h.ex.output, sC.of (h.ex.drawn rfl), h.ex.size, h.ex.ll⟩, h.held, h.nd⟩
theorem jJ.kI {P : Program} {f : FuncId} {args : List Value} {w : World} {v : Value} (h : jJ true P f args w v) : jJ dd P f args w v := bw h fun _ _ h => ⟨h.1, h.2.kI⟩
theorem ki.kI {P : Program} {f : FuncId} {args : List Value} {w : World} {L0 : List (Nat × Obj)} {K : Value → List (Nat × Obj) → World → Prop} (h : ki true P f args w L0 K) : ki dd P f args w L0 K := bw h fun _ _ ⟨v, L1, h1, a, c⟩ => ⟨v, L1, h1, a.kI, c⟩
theorem kw.kI {α : Type} {P : Program} {f : FuncId} {args : List Value} {w : World} {e : TypeId} {enc : α → List Value} {k : Nat} {l : List α} (h : kw true P f args w e enc k l) : kw dd P f args w e enc k l := ki.kI h
section
variable {P : Program} {E : Nat → Value} {W : World} {d : Option Nat} {ty : TypeId} {pos : String} {af : Array Edge} {g : Option (Nat × Bool)}
 {F : Nat → Prop} {w : World} {μ : jF} {L : List (Nat × Obj)}
theorem PO {K : Value → World → Prop} {K' : Value → List (Nat × Obj) → World → Prop} {f : FuncId} {fv : Operand} {ax : Array Operand} {ats : Array TypeId} {caps : Array Value} {args : List Value} (L0 L2 : List (Nat × Obj)) (a : ST dd F w W μ L) (c : L.Perm (L0 ++ L2)) (n : ji E fv = .func (.func f) #[] caps) (he : ∀ args w, (callFunc f args).run P w = .ok (.enter f args) w) (k : ax.map (ji E) ++ caps = args.toArray) (m : ki dd P f args W L0 K') (h : ∀ W' v μ' L1, ST dd F w W' μ' (L1 ++ L2) → jC μ μ' → Lo F w μ μ' → K' v L1 W' → K v W') : mg P E ⟨d, .call ⟨.value fv, ax, ats⟩, ty, pos, af, g⟩ W K :=
 Ff n he k (bw m (fun _ W' ⟨v, L1, h1, i, j⟩ => ⟨v, h1, h W' v _ L1 ((a.perm c).back i) ((a.perm c).H8 W' L1) ((a.perm c).KE W' L1) j⟩))
theorem M0 {K : Value → World → Prop} {α : Type} {e : TypeId} {enc : α → List Value} {k : Nat} {l : List α} {f : FuncId} {fv : Operand} {ax : Array Operand} {ats : Array TypeId} {caps : Array Value} {args : List Value} (X Y : List (Nat × Obj)) (a : ST dd F w W μ (X ++ Y)) (o : ji E fv = .func (.func f) #[] caps) (he : ∀ args w, (callFunc f args).run P w = .ok (.enter f args) w) (m : ax.map (ji E) ++ caps = args.toArray) (n : kw dd P f args W e enc k l) (h : ∀ W' v μ' R, ST dd F w W' μ' (X ++ (R ++ Y)) → jC μ μ' → Lo F w μ μ' → jy e enc k v l R → K v W') : mg P E ⟨d, .call ⟨.value fv, ax, ats⟩, ty, pos, af, g⟩ W K :=
 PO [] (X ++ Y) a (.refl _) o he m n (fun W' v μ' L1 h1 c j i => h W' v μ' L1 (h1.perm (by rw [← aC, ← aC]; exact List.perm_append_comm.append_right Y)) c j i)
end
theorem ST.lU {w W : World} {μ : jF} {L R : List (Nat × Obj)} (h : ST dd jT w W μ L) (a : ∀ p, p ∈ R → p ∈ L) (d : (R.map (·.1)).Nodup) : qF dd [] R w W :=
 qF.I8 h.ex (fun b o c => ⟨(h.box b o (a _ c)).1, by
  rcases (h.box b o (a _ c)).2.2 with h | h
  ·exact h
  ·exact h.elim⟩) d
theorem mw {P : Program} {E : Nat → Value} {W : World} {d : Option Nat} {ty : TypeId} {pos : String} {af : Array Edge} {g : Option (Nat × Bool)} {α : Type} {e' : TypeId} {enc : α → List Value} {k : Nat} {v : Value} {l : List α} {R : List (Nat × Obj)} {x : Operand} {t e : TypeId} (a : P.underlying t = some (.slice e)) (i : ji E x = v) (h : jy e' enc k v l R) : kA P E ⟨d, .call ⟨.builtin .len, #[x], #[t]⟩, ty, pos, af, g⟩ W (.int .i64 l.length) W := by
 obtain ⟨A, c, rfl⟩ := h.form
 exact zw a i
section
variable {α : Type} {e : TypeId} {enc : α → List Value} {k : Nat} {v : Value} {l : List α} {R : List (Nat × Obj)}
theorem jy.nd (h : jy e enc k v l R) : (R.map (·.1)).Nodup := by
 rcases h with ⟨rfl, rfl, rfl⟩ | ⟨g, cap, a, rfl, rfl, _⟩ <;> simp
end
end Go.Proofs.YtbnbdigcbldfhaaGreat
namespace Go.Proofs.YtbnbdigcbldfhaaGreat
open Go.RowKit
variable {dd : Bool}
def DH (R : List (Nat × Obj)) (k : Nat) (p : Value) (i : Nat) : Prop := ∃ g o, R = [(g, o)] ∧ p = .pointer (some ⟨g, i * k, none⟩)
section
variable {P : Program} {E : Nat → Value} {W : World} {d : Option Nat} {ty : TypeId} {pos : String} {af : Array Edge} {g : Option (Nat × Bool)}
 {F : Nat → Prop} {w : World} {μ : jF} {L : List (Nat × Obj)} {α : Type} {e' : TypeId} {enc : α → List Value} {k : Nat} {v : Value} {l : List α} {R : List (Nat × Obj)}
theorem lE {t e : TypeId} {x c : Operand} {y : IntKind} {i : Int} {x0 : α} (s : P.underlying t = some (.slice e)) (he : ∀ w, (sizeOf e).run P w = .ok k w) (u : ji E x = v) (hi : ji E c = .int y i) (h : jy e' enc k v l R) (n : 0 ≤ i) (q : l[i.toNat]? = some x0) :
  ∃ p, DH R k p i.toNat ∧ ∀ W, kA P E ⟨d, .indexAddr t x c, ty, pos, af, g⟩ W p W := by
 have a : i.toNat < l.length := (aH.1 q).1
 rcases h with ⟨rfl, rfl, rfl⟩ | ⟨m, cap, j, rfl, rfl, h1, z, A, D⟩
 ·simp at a
 refine ⟨.pointer (some ⟨m, i.toNat * k, none⟩), ⟨_, _, rfl, rfl⟩, fun W => ?_⟩
 show (do pure (.value (← Instr.indexAt t (ji E x) (ji E c))) : Sem Next).run P W = _
 rw [u, hi]
 have o : 0 ≤ i ∧ i < (l.length : Int) := ⟨n, by omega⟩
 simp [Instr.indexAt, asIntOf, ar s, he W, o, bV]
theorem AZ (h : jy e' enc k v l R) (hk : ∀ x, (enc x).length = k) {p : Value} {i : Nat} (hp : DH R k p i) {x0 : α} (n : l[i]? = some x0) :
  ∃ g a cap, R = [(g, .cells a e' (0, 0))] ∧ v = .slice (some ⟨g, 0, none⟩) l.length cap ∧ l.length ≤ cap ∧ cap ≤ maxLen ∧ a.size = cap * k ∧ a.toList.take (l.length * k) = (l.map enc).flatten ∧ p = .pointer (some ⟨g, i * k, none⟩) ∧ ∀ j y, (enc x0)[j]? = some y → a[i * k + j]? = some y := by
 have d : i < l.length := (aH.1 n).1
 rcases h with ⟨rfl, rfl, rfl⟩ | ⟨s, cap, a, rfl, rfl, h1, t, u, m⟩
 ·simp at d
 obtain ⟨g2, o, q, rfl⟩ := hp
 cases q
 refine ⟨s, a, cap, rfl, rfl, h1, t, u, m, rfl, fun j y w => ?_⟩
 have := wM hk l i x0 n j y w
 rw [← m] at this
 have c : i * k + j < l.length * k := by
  have := (aH.1 this).1
  simp at this; omega
 rw [cw c] at this
 simpa using this
theorem pg {A : List (Nat × Obj)} (hH : rM μ A W) (d : ∀ q, q ∈ R → q ∈ A) (h : jy e' enc k v l R) (hk : ∀ x, (enc x).length = k) {p : Value} {i : Nat} (hp : DH R k p i) {x0 : α} (m : l[i]? = some x0) {t : TypeId} (g : ∀ w, (isAgg t).run P w = .ok true w) (j : ∀ w, (sizeOf t).run P w = .ok k w) : (Instr.loadAt t p).run P W = .ok (.agg (enc x0).toArray) W := by
 obtain ⟨n, a, cap, rfl, rfl, _, _, _, _, rfl, c⟩ := AZ h hk hp m
 exact Cu g (enc x0) (by rw [hk]; exact j) (hH.2 _ _ (d _ (aF.2 rfl))) c
theorem uz {A : List (Nat × Obj)} (hH : rM μ A W) (d : ∀ q, q ∈ R → q ∈ A) (h : jy e' enc k v l R) (hk : ∀ x, (enc x).length = k) {p : Value} {i : Nat} (hp : DH R k p i) {x0 : α} (j : l[i]? = some x0) {t : TypeId} {y : Value} (m : enc x0 = [y]) (g : ∀ w, (isAgg t).run P w = .ok false w) : (Instr.loadAt t p).run P W = .ok y W := by
 obtain ⟨n, a, cap, rfl, rfl, _, _, _, _, rfl, c⟩ := AZ h hk hp j
 exact Ci g (hH.2 _ _ (d _ (aF.2 rfl))) (c 0 y (by rw [m]; rfl))
theorem F2 (hk : ∀ x, (enc x).length = k) : ∀ (l : List α) (i : Nat) (y : α), i < l.length → ((l.set i y).map enc).flatten = (l.map enc).flatten.take (i * k) ++ enc y ++ (l.map enc).flatten.drop (i * k + k)
 | [], i, y, h => by simp at h
 | z :: l, 0, y, h => by
  simp [hk]
 | z :: l, i + 1, y, h => by
  have := F2 hk l i y (by simpa using h)
  simp only [List.set_cons_succ, aQ, cy, this]
  have h1 : (i + 1) * k = (enc z).length + i * k := by rw [hk, bo]; omega
  rw [h1, gr, dG, List.drop_length_add_append]
  simp
theorem M4 {K : Value → World → Prop} (X : List (Nat × Obj)) {Y : List (Nat × Obj)} {t : TypeId} {x y : Operand} {p u : Value} {i : Nat} {x0 x1 : α} (j : ST dd F w W μ (X ++ (R ++ Y))) (h : jy e' enc k v l R) (hk : ∀ x, (enc x).length = k) (h1 : ∀ x, ∀ u ∈ enc x, u.oneCell' = true) (T : ji E x = p) (U : ji E y = u) (hu : u.cells = (enc x1).toArray) (hp : DH R k p i) (D : l[i]? = some x0) (O : ∀ w, (sizeOf t).run P w = .ok k w) (M : ∀ W' R', ST dd F w W' μ (X ++ (R' ++ Y)) → jy e' enc k v (l.set i x1) R' → K undef W') : mg P E ⟨d, .store t x y, ty, pos, af, g⟩ W K := by
 have s : i < l.length := (aH.1 D).1
 obtain ⟨n, a, cap, rfl, rfl, A, J, q, L, rfl, Z⟩ := AZ h hk hp D
 have hle : i * k + k ≤ cap * k := by
  have : (i + 1) * k ≤ cap * k := bd _ (by omega)
  rwa [bo, iS] at this
 have m : i * k + k ≤ l.length * k := by
  have : (i + 1) * k ≤ l.length * k := bd _ (by omega)
  rwa [bo, iS] at this
 have c : u.cells.size = k := by rw [hu]; simp [hk]
 have Q := (j.box n (.cells a e' (0, 0)) (by simp)).1
 have hlen : l.length * k ≤ cap * k := bd _ A
 refine .inr (.inl ⟨W.setRow n (a.toList.take (i * k) ++ (enc x1) ++ a.toList.drop (i * k + k)).toArray, ?_, M _ [(n, .cells (a.toList.take (i * k) ++ (enc x1) ++ a.toList.drop (i * k + k)).toArray e' (0, 0))] (j.store _) (.inr ⟨n, cap, _, by simp, rfl, by simpa using A, J, ?_, ?_⟩)⟩)
 ·show (do Instr.storeAt t (ji E x) (ji E y); pure .skip : Sem Next).run P W = _
  rw [T, U]
  have := Cz P (off := i * k) u (by rw [c]; exact O) (by rw [hu]; simpa using h1 x1) Q (by rw [c, q]; exact hle)
  simp only [aZ, this, aN, bQ, c]
  rw [hu]
 ·show ((a.toList.take (i * k) ++ (enc x1) ++ a.toList.drop (i * k + k)).toArray).size = _
  have o : a.toList.length = cap * k := by simpa using q
  rw [bH, ah, ah, bx, bY, hk, o, bO (by omega)]; omega
 ·rw [gk, F2 hk l i x1 s, ← L]
  have G : (a.toList.take (l.length * k)).take (i * k) = a.toList.take (i * k) := by rw [eo]; congr 1; omega
  have I : (a.toList.take (l.length * k)).drop (i * k + k) = (a.toList.drop (i * k + k)).take (l.length * k - (i * k + k)) := by rw [fl]
  rw [G, I]
  show List.take (l.length * k) (a.toList.take (i * k) ++ enc x1 ++ a.toList.drop (i * k + k)) = _
  have o : a.toList.length = cap * k := by simpa using q
  have z : (a.toList.take (i * k) ++ enc x1).length = i * k + k := by rw [ah, bx, hk, o, bO (by omega)]
  rw [dt, bN (by rw [z]; exact m), z]
theorem BN (hk : ∀ x, (enc x).length = k) : ∀ (l : List α) (i : Nat), i ≤ l.length → ((l.take i).map enc).flatten = (l.map enc).flatten.take (i * k)
 | [], i, h => by simp
 | z :: l, 0, h => by simp
 | z :: l, i + 1, h => by
  have := BN hk l i (by simpa using h)
  simp only [List.take_succ_cons, aQ, cy, this]
  rw [show (i + 1) * k = (enc z).length + i * k by rw [hk, bo]; omega, gr]
theorem sT {t e : TypeId} {x ih : Operand} {D : IntKind} {i : Int} (m : P.underlying t = some (.slice e)) (he : ∀ w, (sizeOf e).run P w = .ok k w) (n : ji E x = v) (hi : ji E ih = .int D i) (h : jy e' enc k v l R) (hk : ∀ x, (enc x).length = k) (q : 0 ≤ i) (A : i ≤ l.length) :
  ∃ o, jy e' enc k o (l.take i.toNat) R ∧ ∀ W, kA P E ⟨d, .slice t x none (some ih) none, ty, pos, af, g⟩ W o W := by
 have a : i.toNat ≤ l.length := by omega
 rcases h with ⟨rfl, rfl, rfl⟩ | ⟨j, cap, c, rfl, rfl, h1, s, u, y⟩
 ·have : i = 0 := by simp at A; omega
  subst this
  refine ⟨.slice none 0 0, .inl ⟨rfl, by simp, rfl⟩, fun W => ?_⟩
  show (do pure (.value (← Instr.sliceAt t (ji E x) none (some (ji E ih)) none)) : Sem Next).run P W = _
  rw [n, hi]
  simp [Instr.sliceAt, Instr.slice, Instr.sliceBounds, Instr.sliceBound, asIntOf, ar m, he W]
 ·refine ⟨.slice (some ⟨j, 0, none⟩) (l.take i.toNat).length cap, .inr ⟨j, cap, c, rfl, rfl, by simp; omega, s, u, ?_⟩, fun W => ?_⟩
  ·have p : (l.take i.toNat).length = i.toNat := by rw [bx]; omega
   have hle : i.toNat * k ≤ l.length * k := bd _ a
   rw [p, BN hk l i.toNat a, ← y, eo, bO hle]
  ·show (do pure (.value (← Instr.sliceAt t (ji E x) none (some (ji E ih)) none)) : Sem Next).run P W = _
   rw [n, hi]
   have z : 0 ≤ i ∧ i ≤ (cap : Int) := ⟨q, by omega⟩
   simp [Instr.sliceAt, Instr.slice, Instr.sliceBounds, Instr.sliceBound, asIntOf, ar m, he W, z, bV]
   omega
theorem Cj {u : qa α} {t e : TypeId} {x p : Operand} {Y : IntKind} {i : Int} (R : P.underlying t = some (.slice e)) (he : ∀ w, (sizeOf e).run P w = .ok k w) (n : ji E x = v) (hi : ji E p = .int Y i) (h : Sl u k μ v l) (z : 0 ≤ i) (M : i ≤ l.length) :
  ∃ s, (Sl u k μ s (l.drop i.toNat) ∧ ∀ B, Fr B v → Fr B s) ∧ ∀ W, kA P E ⟨d, .slice t x (some p) none none, ty, pos, af, g⟩ W s W := by
 obtain ⟨A, c, rfl, h2, h3, D⟩ := h
 have O : i.toNat ≤ l.length := by omega
 refine ⟨.slice (if c = i.toNat then A else A.map (·.add (i.toNat * k))) (l.drop i.toNat).length (c - i.toNat), ⟨⟨_, _, rfl, by simp; omega, by omega, fun hp => ?_⟩, fun B L b m => ?_⟩, fun W => ?_⟩
 ·have Q : i.toNat < l.length := by simp at hp; omega
  obtain ⟨b, off, cs, T, fr, rfl, F, G⟩ := D (by omega)
  refine ⟨b, off + i.toNat * k, cs, T, fr, ?_, F, fun j x n => ?_⟩
  ·rw [ai (by omega)]; simp [bV]
  ·rw [cq] at n
   obtain ⟨ys, I, J, o⟩ := G _ x n
   refine ⟨ys, I, J, fun q y U => ?_⟩
   have := o q y U
   rw [bo] at this
   rw [show off + i.toNat * k + j * k + q = off + (i.toNat * k + j * k) + q by omega]
   exact this
 ·refine L b ?_
  cases A with
  | none => simp [Value.ownBlock] at m
  | some a =>
   split at m
   ·exact m
   ·obtain ⟨b', o', Z⟩ := a
    cases Z <;> simp [Value.ownBlock, Addr.add] at m ⊢ <;> split at m <;> exact m
 ·show (do pure (.value (← Instr.sliceAt t (ji E x) (some (ji E p)) none none)) : Sem Next).run P W = _
  rw [n, hi]
  have m : 0 ≤ i ∧ i ≤ (l.length : Int) := ⟨z, M⟩
  simp [Instr.sliceAt, Instr.slice, Instr.sliceBounds, Instr.sliceBound, asIntOf, ar R, he W, m]
end
end Go.Proofs.YtbnbdigcbldfhaaGreat
namespace Go.Proofs.YtbnbdigcbldfhaaGreat
open Go.RowKit
variable {dd : Bool}
section
variable {α : Type} {e : TypeId} {enc : α → List Value} {k : Nat} {v : Value} {l : List α} {R : List (Nat × Obj)} {μ : jF}
theorem jy.one (h : jy e enc k v l R) : v.oneCell' = true := by obtain ⟨A, c, rfl⟩ := h.form; rfl
theorem Sl.one {a : qa α} (h : Sl a k μ v l) : v.oneCell' = true := by obtain ⟨A, c, rfl⟩ := h.form; rfl
theorem Sl.isNil {d : qa α} {n c : Nat} (h : Sl d k μ (.slice none n c) l) : l = [] := by
 obtain ⟨A, j, h1, m, o, g⟩ := h
 cases h1
 rcases cH l.length with a | a
 ·exact cA.1 a
 ·obtain ⟨b, off, cs, T, fr, i, _⟩ := g a
  cases i
theorem jy.isNil {n c : Nat} (h : jy e enc k (.slice none n c) l R) : l = [] := by
 rcases h with ⟨h1, rfl, rfl⟩ | ⟨g, cap, a, h1, _⟩
 ·rfl
 ·cases h1
theorem ST.Tq {w W : World} {μ : jF} {L1 L2 : List (Nat × Obj)} (h : ST dd jT w W μ (L1 ++ L2)) : qF dd [] L1 w W :=
 qF.I8 h.ex (fun b o a => ⟨(h.box b o (aW _ a)).1, by
  rcases (h.box b o (aW _ a)).2.2 with h | h
  ·exact h
  ·exact h.elim⟩) (by have := h.nd; rw [bi] at this; exact (aS.1 this).1)
theorem ST.Tw {w W : World} {μ : jF} {L0 L1 L2 : List (Nat × Obj)} (h : ST dd (keys L0) w W μ (L1 ++ L2)) : qF dd L0 L1 w W :=
 ⟨⟨h.os, h.tape, h.output, h.drawn, h.size, h.ll⟩, fun b o a => ⟨(h.box b o (aW _ a)).1, (h.box b o (aW _ a)).2.2⟩, by have := h.nd; rw [bi] at this; exact (aS.1 this).1⟩
end
end Go.Proofs.YtbnbdigcbldfhaaGreat
namespace Go.Proofs.YtbnbdigcbldfhaaGreat
open Go.RowKit
variable {dd : Bool}
def kx {κ β : Type} (beq : κ → κ → Bool) (l : List (κ × β)) (k : κ) : Option β := (l.find? (fun p => beq k p.1)).map (·.2)
def mC {κ β : Type} (beq : κ → κ → Bool) (l : List (κ × β)) (k : κ) (v : β) : List (κ × β) :=
 match l.findIdx? (fun p => beq k p.1) with
 | some i => l.set i (k, v)
 | none => l ++ [(k, v)]
structure uK {κ β : Type} (kenc : κ → Value) (vf : β → Value) (l : List (κ × β)) (es : Array MapEntry) (clock : Nat) : Prop where
 Fx : es.toList.map (fun e => (e.key, e.val)) = l.map (fun p => (kenc p.1, vf p.2))
 born : es.toList.Pairwise (fun a b => a.born < b.born)
 lt : ∀ e ∈ es.toList, e.born < clock
def kE {κ β : Type} (kenc : κ → Value) (vf : β → Value) (v : Value) (l : List (κ × β)) (R : List (Nat × Obj)) : Prop :=
 ∃ m es clock, v = .map (some m) ∧ R = [(m, .map es clock)] ∧ uK kenc vf l es clock
def uN {κ β : Type} (kenc : κ → Value) (vf : β → Value) (μ : jF) (v : Value) (l : List (κ × β)) : Prop :=
 (v = .map none ∧ l = []) ∨ ∃ m es clock, v = .map (some m) ∧ μ m = some (.map es clock) ∧ uK kenc vf l es clock
theorem uN.mono {κ β : Type} {kenc : κ → Value} {vf : β → Value} {μ μ' : jF} {v : Value} {l : List (κ × β)} (h : uN kenc vf μ v l) (d : jC μ μ') : uN kenc vf μ' v l := by
 rcases h with h | ⟨m, es, clock, h1, a, c⟩
 ·exact .inl h
 ·exact .inr ⟨m, es, clock, h1, d _ _ a, c⟩
theorem kE.at {κ β : Type} {kenc : κ → Value} {vf : β → Value} {μ : jF} {v : Value} {l : List (κ × β)} {R : List (Nat × Obj)} (h : kE kenc vf v l R) (c : ∀ b o, (b, o) ∈ R → μ b = some o) : uN kenc vf μ v l := by
 obtain ⟨m, es, clock, rfl, rfl, a⟩ := h
 exact .inr ⟨m, es, clock, rfl, c _ _ (aF.2 rfl), a⟩
structure nP {κ : Type} (P : Program) (kt : TypeId) (kenc : κ → Value) (beq : κ → κ → Bool) : Prop where
 check : ∀ b k W, (Instr.checkKey b 10000 kt (kenc k)).run P W = .ok () W
 find : ∀ (k : κ) (l : List κ) (es : List MapEntry), es.map (·.key) = l.map kenc → ∀ W, (Instr.findKey kt (kenc k) es).run P W = .ok ((l.findIdx? (fun x => beq k x)).bind fun i => (es[i]?).map fun e => (i, e.val)) W
 eq : ∀ k x, beq k x = true → kenc x = kenc k
 bits : ∀ k, Instr.sameBits 10000 (kenc k) (kenc k) = true
section
variable {P : Program} {W : World} {κ : Type} {kt : TypeId} {kenc : κ → Value} {beq : κ → κ → Bool}
theorem CM (a : ∀ x y W, (Op.equal kt (kenc x) (kenc y)).run P W = .ok (beq x y) W) (k : κ) : ∀ (l : List κ) (es : List MapEntry) (i : Nat), es.map (·.key) = l.map kenc →
  (Instr.findAsking kt (kenc k) es i).run P W = .ok ((l.findIdx? (fun x => beq k x)).bind fun j => (es[j]?).map fun e => (i + j, e.val)) W
 | [], [], i, h => by simp [Instr.findAsking]
 | [], _ :: _, i, h => by simp at h
 | _ :: _, [], i, h => by simp at h
 | x :: l, e :: es, i, h => by
  simp only [aQ, bB] at h
  obtain ⟨h1, c⟩ := h
  simp only [Instr.findAsking, aZ, h1, a, aN, dw]
  cases d : beq k x with
  | true => simp
  | false =>
   simp only [ae, aq]
   rw [CM a k l es (i + 1) c]
   cases l.findIdx? (fun x => beq k x) with
   | none => rfl
   | some j => simp [dG, iG 1 j]
theorem Lh {kind : TypeDesc} (hk : ∀ a b, Instr.sameNow kind (.agg a) b = none) (a : Array Value) : ∀ (es : List MapEntry) (i : Nat), Instr.findNow kind (.agg a) es i = if es = [] then some none else none
 | [], i => by simp [Instr.findNow]
 | e :: es, i => by simp [Instr.findNow, hk]
theorem nP.struct {enc : κ → List Value} {i : Array Field} (o : P.underlying kt = some (.struct i)) (n : ∀ d x y W, (Op.equalIn (d + 10) kt (.agg (enc x).toArray) (.agg (enc y).toArray)).run P W = .ok (beq x y) W) (m : ∀ b k W, (Instr.checkKey b 10000 kt (.agg (enc k).toArray)).run P W = .ok () W) (he : ∀ k x, beq k x = true → x = k) (j : ∀ k, Instr.sameBits 10000 (.agg (enc k).toArray) (.agg (enc k).toArray) = true) : nP P kt (fun x => .agg (enc x).toArray) beq where
 check := m
 find := fun k l es h W => by
  have c : ∀ x y W, (Op.equal kt (.agg (enc x).toArray) (.agg (enc y).toArray)).run P W = .ok (beq x y) W := fun x y W => n 9990 x y W
  simp only [Instr.findKey, aZ, ar o, aN]
  rw [Lh (fun a b => by cases b <;> rfl)]
  by_cases g : es = []
  ·subst g
   have : l = [] := by simpa using h.symm
   subst this
   simp
  ·rw [ai g]
   dsimp only
   rw [show Instr.findAsking kt (.agg (enc k).toArray) es = Instr.findAsking kt (.agg (enc k).toArray) es 0 from rfl, CM c k l es 0 h]
   simp
 eq := fun k x h => by rw [he k x h]
 bits := j
theorem kK {a b : ByteArray} : ke a b = true ↔ a = b := by
 unfold ke
 rw [dJ, dJ]
 constructor
 ·intro h
  have h1 : a.data.toList = b.data.toList := by simpa using h
  exact ij (Array.toList_inj.1 h1)
 ·rintro rfl
  simp
theorem Bz (a b : ByteArray) : (a == b) = ke a b := by
 rw [aK, kK]
 constructor
 ·intro h
  have h1 : (a.data == b.data) = true := h
  exact ij (by simpa using h1)
 ·rintro rfl
  show (a.data == a.data) = true
  simp
theorem CO (k : ByteArray) : ∀ (l : List ByteArray) (es : List MapEntry) (i : Nat), es.map (·.key) = l.map Value.string →
  Instr.findNow .string (.string k) es i = some ((l.findIdx? (fun x => ke k x)).bind fun j => (es[j]?).map fun e => (i + j, e.val))
 | [], [], i, h => by simp [Instr.findNow]
 | [], _ :: _, i, h => by simp at h
 | _ :: _, [], i, h => by simp at h
 | x :: l, e :: es, i, h => by
  simp only [aQ, bB] at h
  obtain ⟨h1, a⟩ := h
  simp only [Instr.findNow, h1, Instr.sameNow, Bz, dw]
  cases c : ke k x with
  | true => simp
  | false =>
   simp only [ae, aq]
   rw [CO k l es (i + 1) a]
   cases l.findIdx? (fun x => ke k x) with
   | none => rfl
   | some j => simp [dG, iG 1 j]
theorem rZ (a : P.underlying kt = some .string) (n : Nat) (b : Bool) (k : ByteArray) (W : World) : (Instr.checkKey b (n + 1) kt (.string k)).run P W = .ok () W := by
 simp [Instr.checkKey, ar a]
theorem nP.string (a : P.underlying kt = some .string) : nP P kt Value.string ke where
 check := fun b k W => rZ a 9999 b k W
 find := fun k l es h W => by
  simp only [Instr.findKey, aZ, ar a, aN]
  have := CO k l es 0 h
  rw [this]
  simp
 eq := fun k x h => by rw [kK.1 h]
 bits := fun k => by simp only [Instr.sameBits]; rw [Bz]; exact kK.2 rfl
variable {β : Type} {vf : β → Value} {E : Nat → Value} {d : Option Nat} {ty : TypeId} {pos : String} {af : Array Edge} {g : Option (Nat × Bool)} {F : Nat → Prop} {w : World} {μ : jF} {L : List (Nat × Obj)}
theorem uK.keys {l : List (κ × β)} {es : Array MapEntry} {clock : Nat} (h : uK kenc vf l es clock) : es.toList.map (·.key) = (l.map (·.1)).map kenc := by
 have := ay (List.map Prod.fst) h.Fx
 simpa [fp] using this
theorem uK.length {l : List (κ × β)} {es : Array MapEntry} {clock : Nat} (h : uK kenc vf l es clock) : es.size = l.length := by
 have := ay List.length h.Fx
 simpa using this
theorem uK.get {l : List (κ × β)} {es : Array MapEntry} {clock : Nat} (h : uK kenc vf l es clock) (k : κ) :
  (((l.map (·.1)).findIdx? (fun x => beq k x)).bind fun i => (es.toList[i]?).map fun e => (i, e.val)) = (l.findIdx? (fun p => beq k p.1)).bind fun i => (l[i]?).map fun p => (i, vf p.2) := by
 rw [fq]
 show ((l.findIdx? (fun p => beq k p.1)).bind _) = _
 congr 1
 funext i
 have := ay (fun q => q[i]?) h.Fx
 simp only [cg] at this
 cases h1 : es.toList[i]? with
 | none => rw [h1] at this; cases a : l[i]? with
  | none => rfl
  | some p => rw [a] at this; cases this
 | some e => rw [h1] at this; cases a : l[i]? with
  | none => rw [a] at this; cases this
  | some p => rw [a] at this; simp at this; simp [this.2]
theorem xN (l : List (κ × β)) (k : κ) : kx beq l k = (l.findIdx? (fun p => beq k p.1)).bind fun i => (l[i]?).map (·.2) := by
 induction l with
 | nil => rfl
 | cons p l ih =>
  simp only [kx, iR, dw] at ih ⊢
  cases beq k p.1 with
  | true => rfl
  | false =>
   simp only [ae, aq]
   rw [ih]
   cases l.findIdx? (fun p => beq k p.1) <;> simp
theorem Js {t e : TypeId} {m x : Operand} {s z : Value} {l : List (κ × β)} {k : κ} (K : nP P kt kenc beq) (o : P.underlying t = some (.map kt e)) (c : ∀ w, (zeroValue e).run P w = .ok z w) (hm : ji E m = s) (A : ji E x = kenc k) (v : uN kenc vf (hp W) s l) :
  kA P E ⟨d, .lookup t m x false, ty, pos, af, g⟩ W (((kx beq l k).map vf).getD z) W := by
 show (do pure (.value (← Instr.lookup t (ji E m) (ji E x) false)) : Sem Next).run P W = _
 rw [hm, A]
 rcases v with ⟨rfl, rfl⟩ | ⟨q, es, clock, rfl, y, h⟩
 ·have := K.find k [] [] rfl W
  simp [Instr.lookup, ar o, K.check, this, c W, kx]
 ·have a : W.heap[q]? = some (.map es clock) := y
  have u : (getObj q : Sem Obj).run P W = .ok (.map es clock) W := by simp [getObj, Sem.run, a]
  have j := K.find k _ _ h.keys W
  rw [h.get k] at j
  simp only [Instr.lookup, aZ, ar o, aN, u, bQ, K.check, j, xN]
  cases D : l.findIdx? (fun p => beq k p.1) with
  | none => simp [c W]
  | some i =>
   cases n : l[i]? with
   | none => simp [n, c W]
   | some p => simp [n]
theorem rH {l : List (κ × β)} {k : κ} {i : Nat} (h : l.findIdx? (fun p => beq k p.1) = some i) : ∃ p, l[i]? = some p ∧ beq k p.1 = true := by
 rw [cU] at h
 obtain ⟨h1, a, _⟩ := h
 exact ⟨l[i], bq h1, a⟩
theorem uK.put {l : List (κ × β)} {es : Array MapEntry} {clock : Nat} (h : uK kenc vf l es clock) (k : κ) (v : β) :
  match l.findIdx? (fun p => beq k p.1) with
  | some i => uK kenc vf (l.set i (k, v)) (es.modify i fun e => { e with key := kenc k, val := vf v }) clock
  | none => uK kenc vf (l ++ [(k, v)]) (es.push { key := kenc k, val := vf v, born := clock }) (clock + 1) := by
 cases o : l.findIdx? (fun p => beq k p.1) with
 | none =>
  refine ⟨?_, ?_, ?_⟩
  ·simp [h.Fx]
  ·simp only [Array.toList_push, gd]
   exact ⟨h.born, by simp, fun a u b n => by simp at n; subst n; exact h.lt a u⟩
  ·intro e he
   simp at he
   rcases he with he | rfl
   ·exact Nat.lt_succ_of_lt (h.lt e (by simpa using he))
   ·exact aY _
 | some i =>
  obtain ⟨p, hp, _⟩ := rH o
  have hi : i < l.length := (aH.1 hp).1
  have c : (es.modify i fun e => { e with key := kenc k, val := vf v }).toList.map (·.born) = es.toList.map (·.born) := by
   apply cz
   intro j
   simp only [cg, bT, cL]
   split
   ·cases es[j]? <;> simp
   ·rfl
  refine ⟨?_, ?_, ?_⟩
  ·apply cz
   intro j
   have g := ay (fun q => q[j]?) h.Fx
   simp only [cg, bT] at g
   simp only [cg, bT, cL, dB]
   by_cases d : i = j
   ·subst d
    simp only [aD]
    rw [aj hi]
    cases s : es[i]? with
    | none => rw [s, hp] at g; cases g
    | some e => rfl
   ·rw [ai d, ai d]; exact g
  ·have := h.born
   rw [← dX (f := fun e : MapEntry => e.born) (R := (· < ·))] at this ⊢
   rw [c]; exact this
  ·intro e he
   have : e.born ∈ es.toList.map (·.born) := by rw [← c]; exact aR.2 ⟨e, he, rfl⟩
   obtain ⟨e', m, t⟩ := aR.1 this
   rw [← t]; exact h.lt e' m
theorem yj {W : World} {r : Nat} {es : Array MapEntry} {c : Nat} (d : W.heap[r]? = some (.map es c)) (a : Obj) : (setObj r a).run P W = .ok () (ChangeMaps.setBlock W r a) := by
 simp [setObj, Sem.run, d, ChangeMaps.setBlock]
theorem ST.setBlock {A B : List (Nat × Obj)} {b : Nat} {o : Obj} (h : ST dd F w W μ (A ++ (b, o) :: B)) (c : Obj) : ST dd F w (ChangeMaps.setBlock W b c) μ (A ++ (b, c) :: B) := by
 have d := (h.box b o (by simp)).1
 have a := ng d
 refine h.put ⟨rfl, rfl, rfl, aM _, by simp [ChangeMaps.setBlock]⟩ (fun k hk => ?_) ?_
 ·simp only [ChangeMaps.setBlock]
  rw [Array.getElem?_setIfInBounds_ne (fun e => hk e.symm)]
 ·simp only [ChangeMaps.setBlock]
  rw [Array.getElem?_setIfInBounds_self_of_lt a]
theorem zG {I : Value → World → Prop} (X : List (Nat × Obj)) {Y R : List (Nat × Obj)} {t e : TypeId} {m x y : Operand} {G : Value} {l : List (κ × β)} {k : κ} {v : β} (K : nP P kt kenc beq) (M : P.underlying t = some (.map kt e)) (n : ST dd F w W μ (X ++ (R ++ Y))) (h : kE kenc vf G l R) (hm : ji E m = G) (Q : ji E x = kenc k) (T : ji E y = vf v) (L : ∀ W' R', ST dd F w W' μ (X ++ (R' ++ Y)) → kE kenc vf G (mC beq l k v) R' → I undef W') : mg P E ⟨d, .mapUpdate t m x y, ty, pos, af, g⟩ W I := by
 obtain ⟨c, es, clock, rfl, rfl, z⟩ := h
 have A : W.heap[c]? = some (.map es clock) := (n.box c (.map es clock) (by simp)).1
 have J : (getObj c : Sem Obj).run P W = .ok (.map es clock) W := by simp [getObj, Sem.run, A]
 have o := K.find k _ _ z.keys W
 rw [z.get k] at o
 have a := z.put (beq := beq) k v
 have j : ∀ W', (Instr.mapUpdate t (.map (some c)) (kenc k) (vf v)).run P W = .ok () W' → (execOp (ji E) ⟨d, .mapUpdate t m x y, ty, pos, af, g⟩).run P W = .ok .skip W' := by
  intro W' O
  show (do Instr.mapUpdate t (ji E m) (ji E x) (ji E y); pure .skip : Sem Next).run P W = _
  rw [hm, Q, T]
  simp [O]
 cases s : l.findIdx? (fun p => beq k p.1) with
 | none =>
  rw [s] at o a
  refine .inr (.inl ⟨ChangeMaps.setBlock W c (.map (es.push { key := kenc k, val := vf v, born := clock }) (clock + 1)), j _ ?_, L _ [(c, _)] (n.setBlock _) ⟨c, _, _, rfl, rfl, ?_⟩⟩)
  ·simp [Instr.mapUpdate, ar M, J, K.check, o, yj A]
  ·rw [mC, s]; exact a
 | some i =>
  obtain ⟨p, hp, D⟩ := rH s
  rw [s] at o a
  simp only [aa, hp, cv] at o
  have u : ((es[i]?).map (·.key)).getD (kenc k) = kenc k := by
   have := ay (fun q => q[i]?) z.keys
   simp only [cg, hp, cv, bT] at this
   rw [this]
   simp [K.eq k p.1 D]
  refine .inr (.inl ⟨ChangeMaps.setBlock W c (.map (es.modify i fun e => { e with key := kenc k, val := vf v }) clock), j _ ?_, L _ [(c, _)] (n.setBlock _) ⟨c, _, _, rfl, rfl, ?_⟩⟩)
  ·simp only [Instr.mapUpdate, aZ, ar M, J, K.check, o, aN, u, Instr.keyThatStays, K.bits, aD, bQ]
   exact yj A _
  ·rw [mC, s]; exact a
theorem BD {c : Value → World → Prop} {t : TypeId} (kenc : κ → Value) (vf : β → Value) (a : ST dd F w W μ L) (h : ∀ W' v R, ST dd F w W' μ (R ++ L) → kE kenc vf v [] R → c v W') : mg P E ⟨d, .makeMap t none, ty, pos, af, g⟩ W c :=
 .inl ⟨.map (some W.heap.size), W.alloc (.map #[] 0), by
   show (do pure (.value (← Instr.makeMap t none)) : Sem Next).run P W = _
   simp [Instr.makeMap, newObj, Sem.run], h _ _ [(W.heap.size, .map #[] 0)] (a.alloc _) ⟨_, _, _, rfl, rfl, ⟨rfl, by simp, by simp⟩⟩⟩
end
end Go.Proofs.YtbnbdigcbldfhaaGreat
namespace Go.Proofs.YtbnbdigcbldfhaaGreat
open Go.RowKit
variable {dd : Bool}
open Classical in
noncomputable def ET {α β : Type} (l : List α) (f : List α → Option β) : Option β :=
 if h : ∃ r, ∀ o, o.Perm l → f o = some r then some h.choose else none
theorem GG {α β : Type} {l : List α} {f : List α → Option β} {r : β} (h : ∀ o, o.Perm l → f o = some r) : ET l f = some r := by
 have a : ∃ r, ∀ o, o.Perm l → f o = some r := ⟨r, h⟩
 unfold ET
 rw [dif_pos a]
 have h1 := a.choose_spec l (.refl l)
 rw [h l (.refl l)] at h1
 exact h1.symm
end Go.Proofs.YtbnbdigcbldfhaaGreat
namespace Go.Proofs.YtbnbdigcbldfhaaGreat
open Go.RowKit
variable {dd : Bool}
def FR {α β : Type} (P : Program) (fv : Value) (μ : jF) (a : α → List Value) (c : β → Value) (pm : α → Option β) : Prop :=
 ∃ f caps, fv = .func (.func f) #[] caps ∧ (∀ args w, (callFunc f args).run P w = .ok (.enter f args) w) ∧ ∀ W x r, jC μ (hp W) → pm x = some r → jJ true P f (a x ++ caps.toList) W (c r)
def qZ {α β : Type} (P : Program) (fv : Value) (μ : jF) (a : α → List Value) (c : β → Value) (pm : α → Option β) : Prop :=
 ∃ f first caps, fv = .func (.func f) first caps ∧ (∀ args w, (callFunc f args).run P w = .ok (.enter f args) w) ∧ ∀ W x r, jC μ (hp W) → pm x = some r → jJ false P f (first.toList ++ (a x ++ caps.toList)) W (c r)
theorem qZ.form {α β : Type} {P : Program} {fv : Value} {μ : jF} {c : α → List Value} {d : β → Value} {pm : α → Option β} (h : qZ P fv μ c d pm) : ∃ f a b, fv = .func f a b := let ⟨f, a, b, h, _⟩ := h; ⟨_, a, b, h⟩
section
variable {P : Program} {W : World} {E : Nat → Value} {d : Option Nat} {ty : TypeId} {pos : String} {af : Array Edge} {g : Option (Nat × Bool)} {F : Nat → Prop} {w : World} {μ μ0 : jF} {L : List (Nat × Obj)}
theorem qZ.mono {α β : Type} {fv : Value} {a : α → List Value} {c : β → Value} {pm : α → Option β} (h : qZ P fv μ a c pm) (i : jC μ μ0) : qZ P fv μ0 a c pm := by
 obtain ⟨f, first, caps, h1, d, g⟩ := h
 exact ⟨f, first, caps, h1, d, fun W x r h => g W x r (i.trans h)⟩
theorem yP {α β : Type} {K : Value → World → Prop} {fv : Value} {c : α → List Value} {k : β → Value} {pm : α → Option β} {i : Operand} {ax : Array Operand} {ats : Array TypeId} (x : α) {r : β} (a : ST false F w W μ L) (s : qZ P fv μ0 c k pm) (u : jC μ0 μ) (t : ji E i = fv) (q : ax.map (ji E) ++ (#[] : Array Value) = (c x).toArray) (hm : pm x = some r) (h : ∀ W', ST false F w W' μ L → K (k r) W') : mg P E ⟨d, .call ⟨.value i, ax, ats⟩, ty, pos, af, g⟩ W K := by
 obtain ⟨f, first, caps, rfl, m, n⟩ := s
 have j : ax.map (ji E) = (c x).toArray := by simpa using q
 refine .inr (.inr ⟨f, (first.toList ++ (c x ++ caps.toList)).toArray, ?_, bw (n W x r (u.trans a.ju) hm) (fun _ _ ⟨o, p⟩ => ⟨_, o, h _ (a.Fi p)⟩)⟩)
 show (do let d ← resolve (ji E) ⟨.value i, ax, ats⟩ ty; invoke d.target d.args : Sem Next).run P W = _
 simp only [resolve, t, Deferred.ofValue, aZ, bQ, aN, invoke, j, m]
 congr 2
 simp
end
end Go.Proofs.YtbnbdigcbldfhaaGreat
namespace Go.Proofs.YtbnbdigcbldfhaaGreat
open Go.RowKit
variable {dd : Bool}
def Be (A : List (Nat × Obj)) : jF := fun b => (A.find? (fun p => p.1 == b)).map (·.2)
theorem zX {A : List (Nat × Obj)} {W : World} (h : ∀ b o, (b, o) ∈ A → W.heap[b]? = some o) : ∀ b o, Be A b = some o → W.heap[b]? = some o := fun b o a => by
 unfold Be at a
 cases c : A.find? (fun p => p.1 == b) with
 | none => rw [c] at a; cases a
 | some p =>
  rw [c] at a
  cases a
  have h1 := List.mem_of_find?_eq_some c
  have d := List.find?_some c
  simp at d
  subst d
  exact h _ _ h1
theorem At.of {M : jF} {b : Nat} {cs : Array Value} {T : TypeId} {fr : Nat × Nat} (h : M b = some (.cells cs T fr)) (ys : List Value) (c : cs.toList = ys) : At M (.pointer (some ⟨b, 0, none⟩)) ys :=
 ⟨b, 0, cs, T, fr, rfl, h, fun j y a => by subst c; simpa using a⟩
section
variable {F : Nat → Prop} {w W W' : World} {μ μ' : jF} {L L0 L1 L2 : List (Nat × Obj)}
theorem ST.HT (h : ST dd F w W μ L) (a : L.Perm (L0 ++ L2)) : ∀ b o, (b, o) ∈ L2 → qH W L0 b = some o := fun b o c => by
 have h1 := (h.perm a).at_ (bU _ c)
 unfold qH
 rw [ai (Fh (h.perm a).nd c)]
 exact h1
theorem ST.held (h : ST dd F w W μ L) (a : L.Perm (L0 ++ L2)) : Cs L0 W := fun b o c => ((h.perm a).box b o (aW _ c)).1
theorem ST.Py (h : ST dd F w W μ L) (a : L.Perm (L0 ++ L2)) : (L0.map (·.1)).Nodup := by
 have := (h.perm a).nd
 rw [bi] at this
 exact (aS.1 this).1
theorem ST.PZ (h : ST dd F w W μ L) (a : L.Perm (L0 ++ L2)) : jC μ (qH W L0) := (h.perm a).kf (fun _ hp => aW _ hp)
end
section
variable {P : Program} {E : Nat → Value} {W : World} {d : Option Nat} {ty : TypeId} {pos : String} {af : Array Edge} {g : Option (Nat × Bool)}
 {F : Nat → Prop} {w : World} {μ : jF} {L : List (Nat × Obj)}
theorem QY {K : Value → World → Prop} {K' : Value → List (Nat × Obj) → World → Prop} {f : FuncId} {fv : Operand} {ax : Array Operand} {ats : Array TypeId} {caps : Array Value} {args : List Value} (L0 L2 : List (Nat × Obj)) (a : ST dd F w W μ L) (c : L.Perm (L0 ++ L2)) (p : ji E fv = .func (.func f) #[] caps) (he : ∀ args w, (callFunc f args).run P w = .ok (.enter f args) w) (m : ax.map (ji E) ++ (#[] : Array Value) = args.toArray) (n : Cs L0 W → (L0.map (·.1)).Nodup → jC μ (qH W L0) → (∀ b o, (b, o) ∈ L2 → qH W L0 b = some o) → ki dd P f (args ++ caps.toList) W L0 K') (h : ∀ W' v μ' L1, ST dd F w W' μ' (L1 ++ L2) → jC μ μ' → Lo F w μ μ' → (∀ b, W.heap.size ≤ b → ∀ o, qH W' L1 b = some o → μ' b = some o) → K' v L1 W' → K v W') : mg P E ⟨d, .call ⟨.value fv, ax, ats⟩, ty, pos, af, g⟩ W K := by
 have i : ax.map (ji E) = args.toArray := by simpa using m
 refine Ff (args := (args ++ caps.toList).toArray) p he (by rw [i]; simp) (bw (n (a.held c) (a.Py c) (a.PZ c) (a.HT c)) (fun _ W' ⟨v, L1, h1, j, k⟩ => ⟨v, h1, h W' v _ L1 ((a.perm c).back j) ((a.perm c).H8 W' L1) ((a.perm c).KE W' L1) ?_ k⟩))
 intro b s o q
 unfold BV
 rw [ai (by omega)]
 exact q
theorem Sl.lift {α : Type} {enc : α → List Value} {k : Nat} {M μ' : jF} {B : Nat} {v : Value} {l : List α} (h : Sl (Pl enc) k M v l) (p : Fr B v) (n : ∀ b, B ≤ b → ∀ o, M b = some o → μ' b = some o) : Sl (Pl enc) k μ' v l := by
 obtain ⟨A, c, h1, d, g, i⟩ := h
 refine ⟨A, c, h1, d, g, fun q => ?_⟩
 obtain ⟨b, off, cs, T, fr, a, j, m⟩ := i q
 exact ⟨b, off, cs, T, fr, a, n b (p b (by rw [h1, a]; rfl)) _ j, m⟩
theorem xO {t : TypeId} (dd : Nat) {s u : Array TypeId} {b : Bool} (d : P.underlying t = some (.func s u b)) (f : Fn) (a c : Array Value) (W : World) : (Op.equalIn (dd + 1) t (.func f a c) .nilFunc).run P W = .ok false W := by
 simp [Op.equalIn, ar d]
theorem Lc {tx tv : TypeId} {x y : Operand} {f : Fn} {a b : Array Value} {s u : Array TypeId} {bb : Bool} (h : P.underlying tx = some (.func s u bb)) (i : ji E x = .func f a b) (j : ji E y = .nilFunc) :
  kA P E ⟨d, .binOp .neq tx x y tv, ty, pos, af, g⟩ W (.bool true) W := by
 show (do let r ← (do eqGuard .neq tx x y (ji E x) (ji E y); binOp .neq tx (ji E x) (ji E y)); pure (.value r) : Sem Next).run P W = _
 rw [i, j]
 have c := xO 9999 h f a b W
 simp [eqGuard, binOp, Op.equal, show Op.maxDepth = 9999 + 1 from rfl, c]
theorem KY {tx tv : TypeId} {x y : Operand} {f : Fn} {a b : Array Value} {s u : Array TypeId} {bb : Bool} (h : P.underlying tx = some (.func s u bb)) (i : ji E x = .func f a b) (j : ji E y = .nilFunc) :
  kA P E ⟨d, .binOp .eql tx x y tv, ty, pos, af, g⟩ W (.bool false) W := by
 show (do let r ← (do eqGuard .eql tx x y (ji E x) (ji E y); binOp .eql tx (ji E x) (ji E y)); pure (.value r) : Sem Next).run P W = _
 rw [i, j]
 have c := xO 9999 h f a b W
 simp [eqGuard, binOp, Op.equal, show Op.maxDepth = 9999 + 1 from rfl, c]
end
def xb {κ β : Type} (beq : κ → κ → Bool) (l : List (κ × β)) (k : κ) (z : β) : β := (kx beq l k).getD z
section
variable {P : Program} {W : World} {κ β : Type} {kt : TypeId} {kenc : κ → Value} {beq : κ → κ → Bool} {vf : β → Value} {E : Nat → Value} {d : Option Nat} {ty : TypeId} {pos : String} {af : Array Edge} {g : Option (Nat × Bool)} {F : Nat → Prop} {w : World} {μ : jF} {L R : List (Nat × Obj)} {v : Value} {left : List (κ × β)}
theorem ve {t e : TypeId} {m x : Operand} {a : Value} {l : List (κ × β)} {k : κ} {z : β} (K : nP P kt kenc beq) (i : P.underlying t = some (.map kt e)) (n : ∀ w, (zeroValue e).run P w = .ok (vf z) w) (hm : ji E m = a) (j : ji E x = kenc k) (c : uN kenc vf (hp W) a l) :
  kA P E ⟨d, .lookup t m x false, ty, pos, af, g⟩ W (vf (xb beq l k z)) W := by
 have := Js (d := d) (ty := ty) (pos := pos) (af := af) (g := g) K i n hm j c
 rw [xb]
 cases h : kx beq l k with
 | none => rw [h] at this; exact this
 | some y => rw [h] at this; exact this
theorem kE.one {a : Value} {l : List (κ × β)} (h : kE kenc vf a l R) : a.oneCell' = true := by obtain ⟨m, es, clock, rfl, _⟩ := h; rfl
theorem kE.form {a : Value} {l : List (κ × β)} (h : kE kenc vf a l R) : ∃ m, a = .map (some m) := by obtain ⟨m, es, clock, rfl, _⟩ := h; exact ⟨m, rfl⟩
theorem kE.nd {a : Value} {l : List (κ × β)} (h : kE kenc vf a l R) : (R.map (·.1)).Nodup := by obtain ⟨m, es, clock, rfl, rfl, _⟩ := h; simp
theorem kE.DJ {a : Value} {l : List (κ × β)} (h : kE kenc vf a l R) : uN kenc vf (Be R) a l := by
 obtain ⟨m, es, clock, rfl, rfl, c⟩ := h
 exact .inr ⟨m, es, clock, rfl, by simp [Be], c⟩
end
def mM {α : Type} (l : List α) (i : Nat) (z : α) : List α := l.take i ++ List.replicate (l.length - i) z
theorem uc {α : Type} (l : List α) (i : Nat) (z : α) (h : i ≤ l.length) : (mM l i z).length = l.length := by simp [mM]; omega
theorem FY {α : Type} (l : List α) (i : Nat) (z : α) (h : i ≤ l.length) : (mM l i z).take i = l.take i := by
 simp only [mM]
 rw [dt, bN (by simp; omega)]
 simp; omega
end Go.Proofs.YtbnbdigcbldfhaaGreat
namespace Go.Proofs.YtbnbdigcbldfhaaGreat
open Go.RowKit
theorem Iy {P : Program} {cs : Array Value} {b : Bool} {n : Nat} {W : World} : ∀ (l : List Field),
  (∀ f ∈ l, f.name ≠ "_" → ∃ v, (part f.type cs f.offset).run P W = .ok v W ∧ (Instr.checkKey b n f.type v).run P W = .ok () W) →
  ((forIn l PUnit.unit fun f (_ : PUnit) => do
   if f.name ≠ "_" then Instr.checkKey b n f.type (← part f.type cs f.offset)
   pure (ForInStep.yield PUnit.unit)) : Sem PUnit).run P W = .ok PUnit.unit W
 | [], _ => by simp
 | f :: l, h => by
  have ih := Iy l (fun f d => h f (cI _ d))
  simp only [List.forIn_cons, aZ]
  by_cases a : f.name ≠ "_"
  ·obtain ⟨v, h1, c⟩ := h f (by simp) a
   simp only [aj a, aZ, h1, aN, c, bQ]
   exact ih
  ·simp only [ai a, aZ, bQ, aN]
   exact ih
theorem yM {P : Program} {kt : TypeId} {a : Array Field} {l : List Field} {cs : Array Value} {b : Bool} {n : Nat} {W : World} (d : P.underlying kt = some (.struct a)) (c : a.toList = l) (h : ∀ f ∈ l, f.name ≠ "_" → ∃ v, (part f.type cs f.offset).run P W = .ok v W ∧ (Instr.checkKey b n f.type v).run P W = .ok () W) : (Instr.checkKey b (n + 1) kt (.agg cs)).run P W = .ok () W := by
 obtain ⟨a⟩ := a
 subst c
 simp only [Instr.checkKey, aZ, ar d, aN, List.forIn_toArray]
 have := Iy (P := P) (cs := cs) (b := b) (n := n) (W := W) a h
 simp only [aZ] at this
 first | rw [this]; rfl | simpa using this
variable {dd : Bool}
def me (b : Bool) : Option Unit := if b = true then some () else none
theorem F3 {b : Bool} {u : Unit} (h : me b = some u) : b = true := by
 unfold me at h; split at h
 ·assumption
 ·cases h
theorem qc {a c : Int} {u : Unit} (h : me (decide (0 ≤ a) && decide (a ≤ c)) = some u) : 0 ≤ a := by have := F3 h; simp at this; exact this.1
theorem qb {a c : Int} {u : Unit} (h : me (decide (0 ≤ a) && decide (a ≤ c)) = some u) : a ≤ c := by have := F3 h; simp at this; exact this.2
def B2 (k : Nat) (v : Value) (i : Nat) (u : Value) : Prop := ∃ A n c A' a, v = .slice A n c ∧ u = .slice A' (n - i) a ∧ i ≤ n ∧ (i < n → ∃ b o, A = some ⟨b, o, none⟩ ∧ A' = some ⟨b, o + i * k, none⟩)
section
variable {P : Program} {E : Nat → Value} {W : World} {d : Option Nat} {ty : TypeId} {pos : String} {af : Array Edge} {g : Option (Nat × Bool)}
 {F : Nat → Prop} {w : World} {μ : jF} {L : List (Nat × Obj)} {α : Type} {e' : TypeId} {enc : α → List Value} {k : Nat} {v : Value} {l : List α} {R : List (Nat × Obj)}
theorem rE {t e : TypeId} {x a : Operand} {y : IntKind} {i : Int} (m : P.underlying t = some (.slice e)) (he : ∀ w, (sizeOf e).run P w = .ok k w) (n : ji E x = v) (hi : ji E a = .int y i) (h : jy e' enc k v l R) (p : 0 ≤ i) (j : i ≤ l.length) :
  ∃ u, B2 k v i.toNat u ∧ ∀ W, kA P E ⟨d, .slice t x (some a) none none, ty, pos, af, g⟩ W u W := by
 rcases h with ⟨rfl, rfl, rfl⟩ | ⟨c, cap, o, rfl, rfl, h1, z, A, D⟩
 ·have : i = 0 := by simp at j; omega
  subst this
  refine ⟨.slice none 0 0, ⟨none, 0, 0, none, 0, rfl, rfl, aM _, fun h => absurd h (by simp)⟩, fun W => ?_⟩
  show (do pure (.value (← Instr.sliceAt t (ji E x) (some (ji E a)) none none)) : Sem Next).run P W = _
  rw [n, hi]
  simp [Instr.sliceAt, Instr.slice, Instr.sliceBounds, Instr.sliceBound, asIntOf, ar m, he W]
 ·refine ⟨.slice (some (if cap = i.toNat then ⟨c, 0, none⟩ else (Addr.add ⟨c, 0, none⟩ (i.toNat * k)))) (l.length - i.toNat) (cap - i.toNat), ⟨_, _, _, _, _, rfl, rfl, by omega, fun s => ⟨c, 0, rfl, ?_⟩⟩, fun W => ?_⟩
  ·rw [ai (by omega)]; simp [bV]
  ·show (do pure (.value (← Instr.sliceAt t (ji E x) (some (ji E a)) none none)) : Sem Next).run P W = _
   rw [n, hi]
   have q : 0 ≤ i ∧ i ≤ (l.length : Int) := ⟨p, j⟩
   simp [Instr.sliceAt, Instr.slice, Instr.sliceBounds, Instr.sliceBound, asIntOf, ar m, he W, q]
   split <;> rfl
theorem uG {i j : Nat} {x0 : α} (h : (l.drop i)[j]? = some x0) : l[i + j]? = some x0 := by rwa [cq] at h
theorem Et {t e : TypeId} {x : Operand} {u : Value} {i : Nat} (m : P.underlying t = some (.slice e)) (o : ji E x = u) (hu : B2 k v i u) (h : jy e' enc k v l R) : kA P E ⟨d, .call ⟨.builtin .len, #[x], #[t]⟩, ty, pos, af, g⟩ W (.int .i64 ((l.length - i : Nat) : Int)) W := by
 obtain ⟨A, n, c, A', p, h1, j, s, _⟩ := hu
 subst j
 have : n = l.length := by
  rcases h with ⟨rfl, rfl, rfl⟩ | ⟨q, cap, a, rfl, rfl, _⟩
  ·cases h1; rfl
  ·cases h1; rfl
 subst this
 exact zw m o
theorem rI {t e : TypeId} {x m : Operand} {M : IntKind} {i : Int} {x0 : α} {u : Value} {o : Nat} (J : P.underlying t = some (.slice e)) (he : ∀ w, (sizeOf e).run P w = .ok k w) (L : ji E x = u) (hi : ji E m = .int M i) (h : jy e' enc k v l R) (hu : B2 k v o u) (D : 0 ≤ i) (I : (l.drop o)[i.toNat]? = some x0) :
  ∃ p, DH R k p (o + i.toNat) ∧ ∀ W, kA P E ⟨d, .indexAddr t x m, ty, pos, af, g⟩ W p W := by
 have a := uG I
 have j : o + i.toNat < l.length := (aH.1 a).1
 rcases h with ⟨rfl, rfl, rfl⟩ | ⟨z, cap, q, rfl, rfl, h1, Q, T, U⟩
 ·simp at j
 obtain ⟨A, n, c, A', O, s, rfl, Y, F⟩ := hu
 cases s
 obtain ⟨b, Z, y, rfl⟩ := F (by omega)
 cases y
 refine ⟨.pointer (some ⟨z, (o + i.toNat) * k, none⟩), ⟨_, _, rfl, rfl⟩, fun W => ?_⟩
 show (do pure (.value (← Instr.indexAt t (ji E x) (ji E m))) : Sem Next).run P W = _
 rw [L, hi]
 have G : 0 ≤ i ∧ i < ((l.length - o : Nat) : Int) := ⟨D, by omega⟩
 simp [Instr.indexAt, asIntOf, ar J, he W, G, bV, bo]
theorem Nt {s : qa α} {t e : TypeId} {x ih : Operand} {O : IntKind} {j : Int} (M : P.underlying t = some (.slice e)) (he : ∀ w, (sizeOf e).run P w = .ok k w) (m : ji E x = v) (hi : ji E ih = .int O j) (h : Sl s k μ v l) (z : 0 ≤ j) (U : j ≤ l.length) :
  ∃ q, (Sl s k μ q (l.take j.toNat) ∧ ∀ B, Fr B v → Fr B q) ∧ ∀ W, kA P E ⟨d, .slice t x none (some ih) none, ty, pos, af, g⟩ W q W := by
 obtain ⟨A, c, rfl, R, D, F⟩ := h
 have L : j.toNat ≤ l.length := by omega
 refine ⟨.slice A (l.take j.toNat).length c, ⟨⟨A, c, rfl, by simp; omega, D, fun hp => ?_⟩, fun B J b n => J b (by cases A with | none => simp [Value.ownBlock] at n | some a => (obtain ⟨u, Q, p⟩ := a; cases p <;> simp [Value.ownBlock] at n ⊢ <;> exact n))⟩, fun W => ?_⟩
 ·have o : 0 < l.length := by simp at hp; omega
  obtain ⟨b, off, cs, T, fr, rfl, G, I⟩ := F o
  refine ⟨b, off, cs, T, fr, rfl, G, fun i x m => ?_⟩
  rw [ct] at m
  split at m
  ·exact I i x m
  ·cases m
 ·show (do pure (.value (← Instr.sliceAt t (ji E x) none (some (ji E ih)) none)) : Sem Next).run P W = _
  rw [m, hi]
  have n : 0 ≤ j ∧ j ≤ (c : Int) := ⟨z, by omega⟩
  have y : min j.toNat l.length = j.toNat := by omega
  simp [Instr.sliceAt, Instr.slice, Instr.sliceBounds, Instr.sliceBound, asIntOf, ar M, he W, n, y]
  intro _
  cases A with
  | none => rfl
  | some a => obtain ⟨u, Q, p⟩ := a; cases p <;> simp [Addr.add]
theorem CK (ys : List Value) (m : Nat) : (Builtin.zeroCells ys.toArray m).toList = (List.replicate m ys).flatten := by
 unfold Builtin.zeroCells
 simp only [Array.toList_map, Array.toList_range, bH]
 rcases cH ys.length with a | a
 ·have : ys = [] := cA.1 a
  subst this
  simp
 apply cz
 intro q
 by_cases d : q < m * ys.length
 ·have h1 : q / ys.length < m := (fM a).2 d
  have c : q % ys.length < ys.length := Nat.mod_lt _ a
  have := wM (enc := fun _ : Unit => ys) (fun _ => rfl) (List.replicate m ()) (q / ys.length) () (by simp [h1]) (q % ys.length) ys[q % ys.length] (by simp [c])
  rw [Nat.div_add_mod' q ys.length] at this
  rw [gD] at this
  rw [this]
  simp [d, c]
 ·rw [bR (by simp; omega), bR (by simp; omega)]
theorem Lw {K : Value → World → Prop} (z : α) (X : List (Nat × Obj)) {Y : List (Nat × Obj)} {t e : TypeId} {x : Operand} {u Z : Value} {i : Nat} (p : ST dd F w W μ (X ++ (R ++ Y))) (h : jy e' enc k v l R) (hk : ∀ x, (enc x).length = k) (h1 : ∀ x, ∀ u ∈ enc x, u.oneCell' = true) (O : P.underlying t = some (.slice e)) (hz : ∀ w, (zeroValue e).run P w = .ok Z w) (hu : B2 k v i u) (hc : Z.cells = (enc z).toArray) (hx : ji E x = u) (L : ∀ W' R', ST dd F w W' μ (X ++ (R' ++ Y)) → jy e' enc k v (mM l i z) R' → K (.tuple #[]) W') : mg P E ⟨d, .call ⟨.builtin .clear, #[x], #[t]⟩, ty, pos, af, g⟩ W K := by
 have j : ∀ (W' : World), (Builtin.clear_ #[t] ty #[u]).run P W = .ok (.tuple #[]) W' → (execOp (ji E) ⟨d, .call ⟨.builtin .clear, #[x], #[t]⟩, ty, pos, af, g⟩).run P W = .ok (.value (.tuple #[])) W' := by
  intro W' hV
  show (do let d ← resolve (ji E) ⟨.builtin .clear, #[x], #[t]⟩ ty; invoke d.target d.args : Sem Next).run P W = _
  simp [resolve, invoke, builtin, hx, hV]
 obtain ⟨A, n, c, A', c', e1, rfl, D, h8⟩ := hu
 rcases h with ⟨rfl, rfl, rfl⟩ | ⟨s, cap, a, rfl, rfl, U, q2, I, q4⟩
 ·cases e1
  refine .inl ⟨_, W, j W ?_, L W [] p (by simpa [mM] using jy.nil e' enc k)⟩
  simp only [Builtin.clear_, Nat.zero_sub]
  cases A' <;> simp [ar O]
 ·cases e1
  by_cases hi : i < l.length
  ·obtain ⟨b, o, e2, rfl⟩ := h8 hi
   cases e2
   have T : ∀ m, (Builtin.zeroCells Z.cells m).toList = (List.replicate m (enc z)).flatten := by
    intro m
    rw [hc]; exact CK _ _
   have hb := (p.box s (.cells a e' (0, 0)) (by simp)).1
   have hle : i * k + (l.length - i) * k = l.length * k := by rw [← bo]; congr 1; omega
   have hlen : l.length * k ≤ c * k := bd _ U
   have q : ((List.replicate (l.length - i) (enc z)).flatten).length = (l.length - i) * k := by simp [hk]
   have y : ∀ v ∈ (List.replicate (l.length - i) (enc z)).flatten, v.oneCell' = true := by
    intro v G
    obtain ⟨ys, Q, G⟩ := fQ.1 G
    rw [(List.mem_replicate.1 Q).2] at G
    exact h1 z v G
   have hs := gW (P := P) s (i * k) e' ((List.replicate (l.length - i) (enc z)).flatten) 0 a W hb (by rw [q, I]; omega) y
   rw [iH, q, hle] at hs
   refine .inl ⟨_, W.setRow s (a.toList.take (i * k) ++ (List.replicate (l.length - i) (enc z)).flatten ++ a.toList.drop (l.length * k)).toArray, j _ ?_, L _ [(s, .cells (a.toList.take (i * k) ++ (List.replicate (l.length - i) (enc z)).flatten ++ a.toList.drop (l.length * k)).toArray e' (0, 0))] (p.store _) (.inr ⟨s, c, _, by rw [uc _ _ _ D], rfl, by rw [uc _ _ _ D]; exact U, q2, ?_, ?_⟩)⟩
   ·have hn : l.length - i = (l.length - i - 1) + 1 := by omega
    simp only [Builtin.clear_]
    rw [hn]
    simp only [ar O, aZ, aN, dU, fh, hz, bW]
    rw [← hn, T, hs]
    simp
   ·have J : a.toList.length = c * k := by simpa using I
    rw [bH, ah, ah, bx, bY, q, J, bO (by omega)]
    omega
   ·rw [uc _ _ _ D, mM, bi, eG, BN hk l i D, ← q4, eo, bO (by omega), gD]
    have J : a.toList.length = c * k := by simpa using I
    have e3 : (a.toList.take (i * k) ++ (List.replicate (l.length - i) (enc z)).flatten).length = l.length * k := by rw [ah, bx, q, J, bO (by omega)]; omega
    show List.take (l.length * k) (a.toList.take (i * k) ++ (List.replicate (l.length - i) (enc z)).flatten ++ a.toList.drop (l.length * k)) = _
    rw [dt, bN (by rw [e3]; exact aM _), e3, Nat.sub_self]
    simp
  ·have M : i = l.length := by omega
   subst M
   refine .inl ⟨_, W, j W ?_, L W _ p ?_⟩
   ·simp only [Builtin.clear_, Nat.sub_self]
    cases A' <;> simp [ar O]
   ·simp only [mM, List.take_length, Nat.sub_self, List.replicate_zero, bp]
    exact .inr ⟨s, c, a, rfl, rfl, U, q2, I, q4⟩
end
end Go.Proofs.YtbnbdigcbldfhaaGreat
namespace Go.Proofs.YtbnbdigcbldfhaaGreat
open Go.RowKit
variable {dd : Bool}
section
variable {P : Program} {E : Nat → Value} {W : World} {d : Option Nat} {ty : TypeId} {pos : String} {af : Array Edge} {g : Option (Nat × Bool)}
 {F : Nat → Prop} {w : World} {μ : jF} {L : List (Nat × Obj)}
theorem Nh {K : Value → World → Prop} {f : FuncId} {fv : Operand} {ax : Array Operand} {ats : Array TypeId} {args : List Value} {v : Value} (i : ji E fv = .func (.func f) #[] #[]) (c : ax.map (ji E) ++ (#[] : Array Value) = args.toArray) (j : (callFunc f args.toArray).run P W = .ok (.value v) W) (h : K v W) : mg P E ⟨d, .call ⟨.value fv, ax, ats⟩, ty, pos, af, g⟩ W K := by
 have a : ax.map (ji E) = args.toArray := by simpa using c
 refine .inl ⟨v, W, ?_, h⟩
 show (do let d ← resolve (ji E) ⟨.value fv, ax, ats⟩ ty; invoke d.target d.args : Sem Next).run P W = _
 simp only [resolve, i, Deferred.ofValue, aZ, bQ, aN, invoke]
 rw [a]
 simpa using j
def xf (s : ByteArray) (c : Int) : Int := Lib.indexByte s.data.toList c.toNat.toUInt8
def oA (a b : ByteArray) : Int := Lib.compareBytes a.data.toList b.data.toList
def vP (l : List Int) : List UInt8 := l.map fun x => x.toNat.toUInt8
def xY (a b : List Int) : Int := Lib.compareBytes (vP a) (vP b)
theorem Hu {f : FuncId} {fn : Func} (g : P.funcs[f]? = some fn) (a : (fn.name == "runtime.NumGoroutine") = false) (d : fn.body.isNone = true) (h : Extern.findNext fn = none) (he : Extern.find fn = some Extern.BytealgIndexByte.indexByte) (s : ByteArray) (c : Int) (w : World) :
  (callFunc f [Value.string s, .int .u8 c].toArray).run P w = .ok (.value (.int .i64 (xf s c))) w := by
 rw [gn g a d h he]
 rw [Lib.run_indexByteString]
 rfl
theorem O6 {f : FuncId} {fn : Func} (g : P.funcs[f]? = some fn) (c : (fn.name == "runtime.NumGoroutine") = false) (d : fn.body.isNone = true) (h : Extern.findNext fn = none) (he : Extern.find fn = some Extern.BytealgCompare.compare) (a b : ByteArray) (w : World) :
  (callFunc f [Value.string a, .string b].toArray).run P w = .ok (.value (.int .i64 (oA a b))) w := by
 rw [gn g c d h he]
 rw [Lib.run_compareString]
 rfl
theorem D1 {v : Value} {l : List Int} (h : Sl (Pl (jS .u8)) 1 (hp W) v l) : (Extern.Bytes.bytesOf v).run P W = .ok ⟨(vP l).toArray⟩ W := by
 obtain ⟨A, c, rfl, o, p, i⟩ := h
 rcases cH l.length with a | a
 ·have : l = [] := cA.1 a
  subst this
  cases A <;> simp [Extern.Bytes.bytesOf, Extern.Bytes.loadBytes, vP] <;> rfl
 ·obtain ⟨b, off, cs, T, fr, rfl, k, m⟩ := i a
  have := Lib.run_loadBytesX (P := P) W l ⟨b, off, none⟩ .empty (fun j x n => by
   obtain ⟨ys, _, g, d⟩ := m j x n
   cases g
   rw [bV, ee W b (off + j) cs T fr k]
   have := d 0 (.int .u8 x) rfl
   simpa using this)
  simp only [Extern.Bytes.bytesOf]
  rw [this]
  congr 1
  apply ij
  show (#[] : Array UInt8) ++ _ = _
  simp [Lib.bytesOf, vP]
theorem PY {f : FuncId} {fn : Func} (j : P.funcs[f]? = some fn) (c : (fn.name == "runtime.NumGoroutine") = false) (i : fn.body.isNone = true) (k : Extern.findNext fn = none) (he : Extern.find fn = some Extern.BytealgCompare.compare) {d g : Value} {a b : List Int} (h1 : Sl (Pl (jS .u8)) 1 (hp W) d a) (h : Sl (Pl (jS .u8)) 1 (hp W) g b) :
  (callFunc f [d, g].toArray).run P W = .ok (.value (.int .i64 (xY a b))) W := by
 rw [gn j c i k he]
 have : (Extern.BytealgCompare.compare [d, g].toArray).run P W = .ok (.int .i64 (xY a b)) W := by
  change Sem.run P (do pure (goInt (Extern.BytealgCompare.cmp (← Extern.Bytes.bytesOf d) (← Extern.Bytes.bytesOf g)))) W = _
  simp only [aZ, D1 h1, D1 h, bQ, Result.andThen]
  rw [Lib.cmp_eq]
  rfl
 rw [this]
 rfl
theorem rF {fn : Fn} {caps : Array Operand} {cs : List Value} {v : Value} (a : caps.map (ji E) ++ (#[] : Array Value) = cs.toArray) (c : .func fn #[] cs.toArray = v) : kA P E ⟨d, .makeFunc fn #[] caps, ty, pos, af, g⟩ W v W := by
 have : caps.map (ji E) = cs.toArray := by simpa using a
 exact MX (by rw [this]; simpa using c)
theorem ki.mono {f : FuncId} {args : List Value} {L0 : List (Nat × Obj)} {K K' : Value → List (Nat × Obj) → World → Prop} (h : ki dd P f args w L0 K) (hk : ∀ v L1 W', K v L1 W' → K' v L1 W') : ki dd P f args w L0 K' :=
 bw h (fun _ _ ⟨v, L1, h1, a, c⟩ => ⟨v, L1, h1, a, hk _ _ _ c⟩)
end
section
variable {α : Type}
def rX (cf : α × α → Option Int) (x y : α) : Bool := match cf (x, y) with
 | some c => decide (c < 0)
 | none => false
structure ED (cf : α × α → Option Int) (l : List α) : Prop where
 is : ∀ x ∈ l, ∀ y ∈ l, ∃ c, cf (x, y) = some c
 irrefl : ∀ x ∈ l, rX cf x x = false
 trans : ∀ x ∈ l, ∀ y ∈ l, ∀ z ∈ l, rX cf x y = true → rX cf y z = true → rX cf x z = true
 total : ∀ x ∈ l, ∀ y ∈ l, rX cf x y = false → rX cf y x = false → x = y
 short : l.length < 4611686018427387904
def oY (cf : α × α → Option Int) (l : List α) : List α := l.mergeSort fun x y => !rX cf y x
open Classical in
noncomputable def w8 (cf : α × α → Option Int) (l : List α) : Option (List α) := if ED cf l then some (oY cf l) else none
theorem AJ {cf : α × α → Option Int} {l r : List α} (h : w8 cf l = some r) : ED cf l ∧ r = oY cf l := by
 unfold w8 at h
 split at h
 ·rename_i a; cases h; exact ⟨a, rfl⟩
 ·cases h
theorem KT {cf : α × α → Option Int} {l : List α} (h : ED cf l) : w8 cf l = some (oY cf l) := by
 unfold w8; rw [aj h]
def np (l : List ByteArray) : List ByteArray := l.mergeSort fun x y => !oQ y x
def Fk (l : List ByteArray) : Option (List ByteArray) := if l.length < 4611686018427387904 then some (np l) else none
end
end Go.Proofs.YtbnbdigcbldfhaaGreat
namespace Go.Proofs.YtbnbdigcbldfhaaGreat
open Go.RowKit
variable {dd : Bool}
def wR {κ γ : Type} (Q : Value → γ → List (Nat × Obj) → Prop) : List (κ × Value) → List (κ × γ) → List (Nat × Obj) → Prop
 | [], [], R => R = []
 | p :: a, q :: l, R => p.1 = q.1 ∧ ∃ R1 R2, R = R1 ++ R2 ∧ Q p.2 q.2 R1 ∧ wR Q a l R2
 | _, _, _ => False
def lJ {κ γ : Type} (kenc : κ → Value) (Q : Value → γ → List (Nat × Obj) → Prop) (v : Value) (d : List (κ × Value)) (l : List (κ × γ)) (R : List (Nat × Obj)) : Prop :=
 ∃ a c, R = a ++ c ∧ kE kenc (fun x => x) v d a ∧ wR Q d l c
section
variable {κ γ : Type} {Q : Value → γ → List (Nat × Obj) → Prop} {beq : κ → κ → Bool} {kenc : κ → Value}
theorem wR.keys : ∀ {a : List (κ × Value)} {l : List (κ × γ)} {R : List (Nat × Obj)}, wR Q a l R → a.map (·.1) = l.map (·.1)
 | [], [], _, _ => rfl
 | [], _ :: _, _, h => h.elim
 | _ :: _, [], _, h => h.elim
 | p :: a, q :: l, R, h => by
  obtain ⟨h1, R1, R2, _, _, c⟩ := h
  simp [h1, wR.keys c]
theorem wR.find {a : List (κ × Value)} {l : List (κ × γ)} {R : List (Nat × Obj)} (h : wR Q a l R) (k : κ) : a.findIdx? (fun p => beq k p.1) = l.findIdx? (fun p => beq k p.1) := by
 have h1 : (a.map (·.1)).findIdx? (fun x => beq k x) = (l.map (·.1)).findIdx? (fun x => beq k x) := by rw [h.keys]
 rw [fq, fq] at h1
 exact h1
theorem wR.get : ∀ {a : List (κ × Value)} {l : List (κ × γ)} {R : List (Nat × Obj)}, wR Q a l R → ∀ (i : Nat) (k : κ) (x : γ), l[i]? = some (k, x) →
  ∃ v A R1 B, a[i]? = some (k, v) ∧ R = A ++ (R1 ++ B) ∧ Q v x R1 ∧ ∀ k2 v2 x2 R2, Q v2 x2 R2 → wR Q (a.set i (k2, v2)) (l.set i (k2, x2)) (A ++ (R2 ++ B))
 | [], [], _, _, i, k, x, hi => by simp at hi
 | [], _ :: _, _, h, _, _, _, _ => h.elim
 | _ :: _, [], _, h, _, _, _, _ => h.elim
 | p :: a, q :: l, R, h, 0, k, x, hi => by
  obtain ⟨h1, R1, R2, rfl, c, d⟩ := h
  simp at hi
  subst hi
  refine ⟨p.2, [], R1, R2, by simp only [fh]; exact ay some (Prod.ext h1 rfl), rfl, c, fun k2 v2 x2 R2' g => ⟨rfl, R2', R2, rfl, g, d⟩⟩
 | p :: a, q :: l, R, h, i + 1, k, x, hi => by
  obtain ⟨h1, R1, R2, rfl, c, d⟩ := h
  simp at hi
  obtain ⟨v, A, R1', B, g1, rfl, g3, g4⟩ := wR.get d i k x hi
  exact ⟨v, R1 ++ A, R1', B, by simpa using g1, by simp, g3, fun k2 v2 x2 R2' g => ⟨h1, R1, A ++ (R2' ++ B), by simp, c, g4 k2 v2 x2 R2' g⟩⟩
theorem wR.push : ∀ {c : List (κ × Value)} {l : List (κ × γ)} {R : List (Nat × Obj)}, wR Q c l R → ∀ (k : κ) {v : Value} {x : γ} {R1 : List (Nat × Obj)}, Q v x R1 → wR Q (c ++ [(k, v)]) (l ++ [(k, x)]) (R ++ R1)
 | [], [], _, h, k, v, x, R1, a => by
  have i : _ = [] := h
  subst i
  exact ⟨rfl, R1, [], by simp, a, rfl⟩
 | [], _ :: _, _, h, _, _, _, _, _ => h.elim
 | _ :: _, [], _, h, _, _, _, _, _ => h.elim
 | p :: c, q :: l, R, h, k, v, x, R1, a => by
  obtain ⟨h1, d, g, rfl, j, m⟩ := h
  exact ⟨h1, d, g ++ R1, by simp, j, wR.push m k a⟩
theorem lJ.found {s : Value} {d : List (κ × Value)} {l : List (κ × γ)} {R : List (Nat × Obj)} (hk : ∀ {x y : κ}, beq x y = true → x = y) (h : lJ kenc Q s d l R) {k : κ} {x : γ} (c : kx beq l k = some x) :
  ∃ v A R1 B, kx beq d k = some v ∧ R = A ++ (R1 ++ B) ∧ Q v x R1 ∧ (∀ x2 R2, Q v x2 R2 → lJ kenc Q s d (mC beq l k x2) (A ++ (R2 ++ B))) := by
 obtain ⟨o, z, rfl, t, q⟩ := h
 rw [xN] at c
 cases hi : l.findIdx? (fun p => beq k p.1) with
 | none => rw [hi] at c; cases c
 | some i =>
  rw [hi] at c
  obtain ⟨p, hp, u⟩ := rH hi
  simp only [aa, hp, cv, ft] at c
  subst c
  have n := hk u
  obtain ⟨v, A, R1, B, g1, rfl, g3, g4⟩ := q.get i p.1 p.2 hp
  have g : d.findIdx? (fun p => beq k p.1) = some i := by rw [q.find k, hi]
  refine ⟨v, o ++ A, R1, B, by rw [xN, g]; simp [g1], by simp, g3, fun x2 R2 w => ⟨o, A ++ (R2 ++ B), by simp, t, ?_⟩⟩
  have a := g4 k v x2 R2 w
  have e : d.set i (k, v) = d := by
   apply cz
   intro j
   rw [dB]
   split
   ·rename_i m
    subst m
    rw [g1, n]
    simp [(aH.1 g1).1]
   ·rfl
  rw [e] at a
  rw [mC, hi]
  exact a
theorem lJ.M8 {g : Value} {c : List (κ × Value)} {l : List (κ × γ)} {R : List (Nat × Obj)} (h : lJ kenc Q g c l R) {k : κ} (a : kx beq l k = none) : kx beq c k = none := by
 obtain ⟨j, m, rfl, n, d⟩ := h
 rw [xN] at a ⊢
 rw [d.find k]
 cases hi : l.findIdx? (fun p => beq k p.1) with
 | none => rfl
 | some i =>
  rw [hi] at a
  obtain ⟨p, hp, o⟩ := rH hi
  simp [hp] at a
def qP (beq : κ → κ → Bool) (a : List (κ × Value)) (k : κ) (z : Value) : Value := (kx beq a k).getD z
variable {P : Program} {W : World} {kt : TypeId} {E : Nat → Value} {d : Option Nat} {ty : TypeId} {pos : String} {af : Array Edge} {g : Option (Nat × Bool)} {F : Nat → Prop} {w : World} {μ : jF} {L : List (Nat × Obj)}
theorem ow {t e : TypeId} {m x : Operand} {c z : Value} {a : List (κ × Value)} {l : List (κ × γ)} {R : List (Nat × Obj)} {k : κ} (K : nP P kt kenc beq) (q : P.underlying t = some (.map kt e)) (u : ∀ w, (zeroValue e).run P w = .ok z w) (hm : ji E m = c) (s : ji E x = kenc k) (n : lJ kenc Q c a l R) (p : ∀ b o, (b, o) ∈ R → W.heap[b]? = some o) : kA P E ⟨d, .lookup t m x false, ty, pos, af, g⟩ W (qP beq a k z) W := by
 obtain ⟨v, y, rfl, i, A⟩ := n
 have j := Js (d := d) (ty := ty) (pos := pos) (af := af) (g := g) K q u hm s (i.at (μ := hp W) (fun b o h => p b o (aW _ h)))
 simpa [qP] using j
variable {κ2 β : Type} {kenc2 : κ2 → Value} {vf : β → Value} {beq2 : κ2 → κ2 → Bool} {kt2 : TypeId}
theorem lJ.Dx {i : Value} {c : List (κ × Value)} {l : List (κ × List (κ2 × β))} {R : List (Nat × Obj)} (hk : ∀ {x y : κ}, beq x y = true → x = y) (h : lJ kenc (kE kenc2 vf) i c l R) (k : κ) {μ : jF} (d : ∀ b o, (b, o) ∈ R → μ b = some o) :
  uN kenc2 vf μ (qP beq c k (.map none)) ((kx beq l k).getD []) := by
 cases a : kx beq l k with
 | none => rw [qP, h.M8 a]; exact .inl ⟨rfl, rfl⟩
 | some x =>
  obtain ⟨v, A, R1, B, g1, rfl, g3, _⟩ := h.found hk a
  rw [qP, g1]
  exact g3.at (fun b o g => d b o (by simp [g]))
theorem lJ.isNil {d : Value} {c : List (κ × Value)} {l : List (κ × List (κ2 × β))} {R : List (Nat × Obj)} (hk : ∀ {x y : κ}, beq x y = true → x = y) (h : lJ kenc (kE kenc2 vf) d c l R) (k : κ) :
  ∃ r, qP beq c k (.map none) = .map r ∧ r.isNone = (kx beq l k).isNone := by
 cases a : kx beq l k with
 | none => rw [qP, h.M8 a]; exact ⟨none, rfl, rfl⟩
 | some x =>
  obtain ⟨v, A, R1, B, g1, rfl, g3, _⟩ := h.found hk a
  obtain ⟨m, es, clock, rfl, _⟩ := g3
  rw [qP, g1]
  exact ⟨_, rfl, rfl⟩
def F7 {κ κ2 β : Type} (beq : κ → κ → Bool) (beq2 : κ2 → κ2 → Bool) (l : List (κ × List (κ2 × β))) (k : κ) (k2 : κ2) (x : β) : Option (List (κ × List (κ2 × β))) := (kx beq l k).map fun a => mC beq l k (mC beq2 a k2 x)
def Gz {κ γ : Type} (beq : κ → κ → Bool) (l : List (κ × γ)) (k : κ) (x : γ) : Option (List (κ × γ)) := if (kx beq l k).isNone then some (mC beq l k x) else none
theorem OX {p : Value → World → Prop} (X : List (Nat × Obj)) {Y R : List (Nat × Obj)} {t e : TypeId} {m x y : Operand} {s : Value} {o : List (κ × Value)} {l q : List (κ × List (κ2 × β))} {k : κ} {k2 : κ2} {v : β} (hk : ∀ {x y : κ}, beq x y = true → x = y) (K : nP P kt2 kenc2 beq2) (G : P.underlying t = some (.map kt2 e)) (i : ST dd F w W μ (X ++ (R ++ Y))) (h : lJ kenc (kE kenc2 vf) s o l R) (hm : ji E m = qP beq o k (.map none)) (I : ji E x = kenc2 k2) (J : ji E y = vf v) (c : F7 beq beq2 l k k2 v = some q) (D : ∀ W' R', ST dd F w W' μ (X ++ (R' ++ Y)) → lJ kenc (kE kenc2 vf) s o q R' → p undef W') : mg P E ⟨d, .mapUpdate t m x y, ty, pos, af, g⟩ W p := by
 unfold F7 at c
 cases j : kx beq l k with
 | none => rw [j] at c; cases c
 | some L =>
  rw [j] at c
  cases c
  obtain ⟨u, A, R1, B, g1, rfl, g3, g4⟩ := h.found hk j
  have n : ji E m = u := by rw [hm, qP, g1]; rfl
  have a : ST dd F w W μ ((X ++ A) ++ (R1 ++ (B ++ Y))) := by simpa using i
  refine zG (X ++ A) K G a g3 n I J (fun W' R' h1 z => D W' (A ++ (R' ++ B)) ?_ (g4 _ _ z))
  simpa using h1
theorem NT {D : Value → World → Prop} (X : List (Nat × Obj)) {Y R R2 : List (Nat × Obj)} {t e : TypeId} {m x y : Operand} {A : Value} {v : List (κ × Value)} {l I : List (κ × γ)} {k : κ} {u : Value} {z : γ} (K : nP P kt kenc beq) (ht : P.underlying t = some (.map kt e)) (s : ST dd F w W μ (X ++ (R ++ (R2 ++ Y)))) (h : lJ kenc Q A v l R) (hm : ji E m = A) (hx : ji E x = kenc k) (hy : ji E y = u) (Z : Q u z R2) (c : Gz beq l k z = some I) (T : ∀ W' R', ST dd F w W' μ (X ++ (R' ++ Y)) → lJ kenc Q A (mC beq v k u) I R' → D undef W') : mg P E ⟨d, .mapUpdate t m x y, ty, pos, af, g⟩ W D := by
 unfold Gz at c
 cases n : kx beq l k with
 | some l2 => rw [n] at c; cases c
 | none =>
  rw [n] at c
  simp only [Option.isNone_none, aD, ft] at c
  subst c
  have U := h.M8 n
  obtain ⟨L, o, rfl, M, O⟩ := h
  have j : ST dd F w W μ (X ++ (L ++ (o ++ (R2 ++ Y)))) := by simpa using s
  refine zG X K ht j M hm hx hy (fun W' R' g1 g2 => T W' (R' ++ (o ++ R2)) (by simpa using g1) ⟨R', o ++ R2, rfl, g2, ?_⟩)
  have G : ∀ {J : Type} (q : List (κ × J)) (y : J), kx beq q k = none → mC beq q k y = q ++ [(k, y)] := fun q y a => by
   rw [xN] at a
   rw [mC]
   cases hi : q.findIdx? (fun p => beq k p.1) with
   | none => rfl
   | some i =>
    obtain ⟨p, hp, _⟩ := rH hi
    rw [hi] at a
    simp [hp] at a
  rw [G v u U, G l z n]
  exact O.push k Z
end
end Go.Proofs.YtbnbdigcbldfhaaGreat
namespace Go.Proofs.YtbnbdigcbldfhaaGreat
open Go.RowKit
variable {dd : Bool}
section
variable {κ γ : Type} {Q : Value → γ → List (Nat × Obj) → Prop} {beq : κ → κ → Bool} {kenc : κ → Value}
theorem qu {a : Type} {l : List (κ × a)} {k : κ} {i : Nat} (h : l.findIdx? (fun p => beq k p.1) = some i) (x : a) : mC beq l k x = l.set i (k, x) := by rw [mC, h]
theorem vh {a : Type} {l : List (κ × a)} {k : κ} (h : l.findIdx? (fun p => beq k p.1) = none) (x : a) : mC beq l k x = l ++ [(k, x)] := by rw [mC, h]
theorem Er {a : Type} {l : List (κ × a)} {k : κ} (h : l.findIdx? (fun p => beq k p.1) = none) : kx beq l k = none := by rw [xN, h]; rfl
theorem Dw {a : Type} {l : List (κ × a)} {k : κ} {i : Nat} {p : κ × a} (h : l.findIdx? (fun p => beq k p.1) = some i) (hp : l[i]? = some p) : kx beq l k = some p.2 := by rw [xN, h]; simp [hp]
def Ny (beq : κ → κ → Bool) (kenc : κ → Value) (Q : Value → γ → List (Nat × Obj) → Prop) (d : Value) (c : List (κ × Value)) (l : List (κ × γ)) (k : κ) (R : List (Nat × Obj)) : Prop :=
 ∃ a A B, R = a ++ (A ++ B) ∧ kE kenc (fun x => x) d c a ∧ ∀ v x R1, Q v x R1 → wR Q (mC beq c k v) (mC beq l k x) (A ++ (R1 ++ B))
theorem lJ.open (hk : ∀ {x y : κ}, beq x y = true → x = y) {q z : Value} {x0 : γ} (j : Q z x0 []) {m : List (κ × Value)} {l : List (κ × γ)} {R : List (Nat × Obj)} (h : lJ kenc Q q m l R) (k : κ) :
  ∃ R' R1, R.Perm (R' ++ R1) ∧ Q (qP beq m k z) ((kx beq l k).getD x0) R1 ∧ Ny beq kenc Q q m l k R' := by
 obtain ⟨c, n, rfl, o, d⟩ := h
 have a := d.find (beq := beq) k
 cases hi : l.findIdx? (fun p => beq k p.1) with
 | none =>
  rw [hi] at a
  refine ⟨c ++ n, [], by simp, ?_, c, n, [], by simp, o, fun v x R1 g => ?_⟩
  ·rw [qP, Er hi, Er a]; exact j
  ·rw [vh hi, vh a]; simpa using d.push k g
 | some i =>
  rw [hi] at a
  obtain ⟨p, hp, s⟩ := rH hi
  have t := hk s
  obtain ⟨v, A, R1, B, g1, rfl, g3, g4⟩ := d.get i p.1 p.2 hp
  refine ⟨c ++ (A ++ B), R1, ?_, ?_, c, A, B, rfl, o, fun v2 x2 R2 g => ?_⟩
  ·rw [aC, aC]
   refine bK _ (bK _ cM)
  ·rw [qP, Dw hi hp, Dw a g1]; exact g3
  ·rw [qu hi, qu a]; exact g4 k v2 x2 R2 g
variable {P : Program} {W : World} {kt : TypeId} {E : Nat → Value} {d : Option Nat} {ty : TypeId} {pos : String} {af : Array Edge} {g : Option (Nat × Bool)} {F : Nat → Prop} {w : World} {μ : jF} {L : List (Nat × Obj)}
theorem SE {j : Value → World → Prop} (X : List (Nat × Obj)) {Y R R1 : List (Nat × Obj)} {t e : TypeId} {m x y : Operand} {i : Value} {n : List (κ × Value)} {l : List (κ × γ)} {k : κ} {u : Value} {z : γ} (K : nP P kt kenc beq) (D : P.underlying t = some (.map kt e)) (c : ST dd F w W μ (X ++ (R ++ (R1 ++ Y)))) (h : Ny beq kenc Q i n l k R) (hm : ji E m = i) (G : ji E x = kenc k) (I : ji E y = u) (v : Q u z R1) (s : ∀ W' R', ST dd F w W' μ (X ++ (R' ++ Y)) → lJ kenc Q i (mC beq n k u) (mC beq l k z) R' → j undef W') : mg P E ⟨d, .mapUpdate t m x y, ty, pos, af, g⟩ W j := by
 obtain ⟨o, A, B, rfl, p, q⟩ := h
 have a : ST dd F w W μ (X ++ (o ++ (A ++ (B ++ (R1 ++ Y))))) := by simpa using c
 refine zG X K D a p hm G I (fun W' R' g1 g2 => s W' (R' ++ (A ++ (R1 ++ B))) ?_ ⟨R', A ++ (R1 ++ B), rfl, g2, q u z R1 v⟩)
 refine g1.perm ?_
 simp only [aC]
 refine bK _ (bK _ (bK _ ?_))
 rw [← aC, ← aC]
 exact fu _ cM
def Ja (beq : κ → κ → Bool) (kenc : κ → Value) (Q : Value → γ → List (Nat × Obj) → Prop) (c : Value) (l : List (κ × γ)) (k : κ) (st : Nat) (R : List (Nat × Obj)) : Prop :=
 ∃ m es clock a A B i e, c = .map (some m) ∧ R = (m, .map es clock) :: (A ++ B) ∧ uK kenc (fun x => x) a es clock ∧ es[i]? = some e ∧ e.born = st ∧ a.findIdx? (fun p => beq k p.1) = some i ∧
  ∀ v x R1, Q v x R1 → wR Q (mC beq a k v) (mC beq l k x) (A ++ (R1 ++ B))
theorem H2 {d : Type} (hk : ∀ x : κ, beq x x = true) (c : List (κ × d)) (k : κ) (a b : d) : mC beq (mC beq c k a) k b = mC beq c k b := by
 cases hi : c.findIdx? (fun p => beq k p.1) with
 | none =>
  have h1 : (c ++ [(k, a)]).findIdx? (fun p => beq k p.1) = some c.length := by
   rw [gf, hi]
   simp [dw, hk]
  rw [vh hi, vh hi, qu h1]
  simp
 | some i =>
  obtain ⟨p, hp, n⟩ := rH hi
  have h1 : (c.set i (k, a)).findIdx? (fun p => beq k p.1) = some i := by
   rw [cU] at hi ⊢
   obtain ⟨h1, m, g⟩ := hi
   refine ⟨by simpa using h1, by simp [hk], fun j h => ?_⟩
   rw [List.getElem_set_ne (by omega)]
   exact g j h
  rw [qu hi, qu hi, qu h1]
  simp
end
end Go.Proofs.YtbnbdigcbldfhaaGreat
namespace Go.Proofs.YtbnbdigcbldfhaaGreat
open Go.RowKit
variable {dd : Bool}
section
variable {κ γ : Type} {Q : Value → γ → List (Nat × Obj) → Prop} {beq : κ → κ → Bool} {kenc : κ → Value}
variable {P : Program} {W : World} {kt : TypeId} {E : Nat → Value} {d : Option Nat} {ty : TypeId} {pos : String} {af : Array Edge} {g : Option (Nat × Bool)} {F : Nat → Prop} {w : World} {μ : jF} {L : List (Nat × Obj)}
theorem Eu {es : Array MapEntry} {i : Nat} {f c : MapEntry → MapEntry} (h : ∀ e, es[i]? = some e → f e = c e) : es.modify i f = es.modify i c := by
 apply Array.ext_getElem?
 intro j
 rw [cL, cL]
 split
 ·rename_i a
  subst a
  cases he : es[i]? with
  | none => rfl
  | some e => simp [h e he]
 ·rfl
theorem uK.val {c : List (κ × Value)} {es : Array MapEntry} {clock : Nat} (h : uK kenc (fun x => x) c es clock) {i : Nat} {e : MapEntry} (he : es[i]? = some e) : ∃ p, c[i]? = some p ∧ e.key = kenc p.1 ∧ e.val = p.2 := by
 have a := ay (fun q => q[i]?) h.Fx
 simp only [cg, bT, he, cv] at a
 cases hp : c[i]? with
 | none => rw [hp] at a; cases a
 | some p =>
  rw [hp] at a
  simp only [cv, ft, Prod.mk.injEq] at a
  exact ⟨p, rfl, a.1, a.2⟩
theorem Nl {Kk : Value → World → Prop} (X : List (Nat × Obj)) {Y R : List (Nat × Obj)} {t e : TypeId} {m x : Operand} {mv z : Value} {x0 : γ} {lv : List (κ × Value)} {l : List (κ × γ)} {k : κ} (hk : ∀ {x y : κ}, beq x y = true ↔ x = y) (K : nP P kt kenc beq) (ht : P.underlying t = some (.map kt e)) (hz : ∀ w, (zeroValue e).run P w = .ok z w) (ad : Q z x0 []) (O : ST dd F w W μ (X ++ (R ++ Y))) (h : lJ kenc Q mv lv l R) (hm : ji E m = mv) (hx : ji E x = kenc k) (hK : ∀ W' v st R' R1, ST dd F w W' μ (X ++ (R' ++ (R1 ++ Y))) → Q v ((kx beq l k).getD x0) R1 → Ja beq kenc Q mv l k st R' → Kk (.tuple #[v, .int .i64 (st : Nat)]) W') : mg P E ⟨d, .mapEntry t m x, ty, pos, af, g⟩ W Kk := by
 obtain ⟨Rm, Rv, rfl, ⟨n, es, clock, rfl, rfl, o⟩, M⟩ := h
 have hb : W.heap[n]? = some (.map es clock) := (O.box n (.map es clock) (by simp)).1
 have h5 : (getObj n : Sem Obj).run P W = .ok (.map es clock) W := by simp [getObj, Sem.run, hb]
 have J := K.find k _ _ o.keys W
 rw [o.get k] at J
 have D := M.find (beq := beq) k
 have u : ∀ W' v, (Instr.mapEntry t (.map (some n)) (kenc k)).run P W = .ok v W' → (execOp (ji E) ⟨d, .mapEntry t m x, ty, pos, af, g⟩).run P W = .ok (.value v) W' := by
  intro W' v hr
  show (do pure (.value (← Instr.mapEntry t (ji E m) (ji E x))) : Sem Next).run P W = _
  rw [hm, hx]
  simp [hr]
 have s : ST dd F w W μ (X ++ (n, .map es clock) :: (Rv ++ Y)) := by simpa using O
 cases hi : lv.findIdx? (fun p => beq k p.1) with
 | none =>
  rw [hi] at J D
  have a := o.put (beq := beq) k z
  rw [hi] at a
  refine .inl ⟨_, ChangeMaps.setBlock W n (.map (es.push { key := kenc k, val := z, born := clock }) (clock + 1)), u _ (.tuple #[z, .int .i64 (clock : Nat)]) ?_, hK _ z clock ((n, .map (es.push { key := kenc k, val := z, born := clock }) (clock + 1)) :: (Rv ++ [])) [] ?_ ?_ ?_⟩
  ·simp [Instr.mapEntry, ar ht, h5, K.check, J, yj hb, hz _, goInt]
  ·have := s.setBlock (.map (es.push { key := kenc k, val := z, born := clock }) (clock + 1))
   simpa using this
  ·rw [Er D.symm]; exact ad
  ·refine ⟨n, _, _, lv ++ [(k, z)], Rv, [], es.size, { key := kenc k, val := z, born := clock }, rfl, rfl, a, by simp, rfl, ?_, fun v x R1 hq => ?_⟩
   ·rw [gf, hi]
    have a8 := o.length
    simp [dw, hk, a8]
   ·rw [← vh hi, H2 (fun x => hk.2 rfl), vh hi, vh D.symm]
    simpa using M.push k hq
 | some i =>
  rw [hi] at J D
  obtain ⟨p, hp, ab⟩ := rH hi
  obtain ⟨q, a7, T⟩ := rH D.symm
  have av := hk.1 T
  obtain ⟨v, A, R1, B, g1, rfl, g3, g4⟩ := M.get i q.1 q.2 a7
  have a6 : p.2 = v := by rw [g1] at hp; cases hp; rfl
  have a8 := o.length
  have ao : i < lv.length := (aH.1 hp).1
  obtain ⟨L, c⟩ : ∃ L, es[i]? = some L := ⟨es[i], dx (by omega)⟩
  obtain ⟨p', a1, G, I⟩ := o.val c
  rw [hp] at a1
  cases a1
  simp only [aa, hp, cv] at J
  have a := o.put (beq := beq) k v
  rw [hi] at a
  have U : ((es[i]?).map (·.key)).getD (kenc k) = kenc k := by
   rw [c]
   simp only [cv, fR, G]
   exact K.eq k p.1 ab
  have Z : es.modify i (fun e => { e with key := kenc k }) = es.modify i (fun e => { e with key := kenc k, val := v }) := Eu fun e he => by
   rw [c] at he; cases he
   rw [← a6, ← I]
  refine .inl ⟨_, ChangeMaps.setBlock W n (.map (es.modify i fun e => { e with key := kenc k, val := v }) clock), u _ (.tuple #[v, .int .i64 (L.born : Nat)]) ?_, hK _ v L.born ((n, .map (es.modify i fun e => { e with key := kenc k, val := v }) clock) :: (A ++ B)) R1 ?_ ?_ ?_⟩
  ·simp only [Instr.mapEntry, aZ, ar ht, h5, K.check, J, aN, U, Instr.keyThatStays, K.bits, aD, bQ]
   rw [yj hb, Z]
   simp [c, goInt, a6]
  ·have := s.setBlock (.map (es.modify i fun e => { e with key := kenc k, val := v }) clock)
   refine this.perm ?_
   simp only [aC, bF]
   refine bK _ (List.Perm.cons _ (bK _ ?_))
   rw [← aC, ← aC]
   exact fu _ cM
  ·rw [Dw D.symm a7]; exact g3
  ·refine ⟨n, _, _, lv.set i (k, v), A, B, i, { L with key := kenc k, val := v }, rfl, rfl, a, ?_, rfl, ?_, fun v2 x2 R2 hq => ?_⟩
   ·rw [cL, aj rfl, c]; rfl
   ·rw [cU] at hi ⊢
    obtain ⟨h1, o, M⟩ := hi
    refine ⟨by simpa using h1, by simp [hk], fun j hj => ?_⟩
    rw [List.getElem_set_ne (by omega)]
    exact M j hj
   ·rw [← qu hi, H2 (fun x => hk.2 rfl), qu hi, qu D.symm]
    exact g4 k v2 x2 R2 hq
theorem Ow {es : Array MapEntry} (h : es.toList.Pairwise (fun a b => a.born < b.born)) {i : Nat} {e : MapEntry} (he : es[i]? = some e) : es.findIdx? (fun a => (a.born : Int) == (e.born : Int)) = some i := by
 rw [Array.findIdx?_eq_some_iff_getElem]
 obtain ⟨d, c⟩ := bE.1 he
 refine ⟨d, by rw [c]; simp, fun j g => ?_⟩
 have := List.pairwise_iff_getElem.1 h j i (by simpa using Nat.lt_trans g d) (by simpa using d) g
 simp only [Array.getElem_toList] at this
 rw [c] at this
 simp
 omega
theorem KQ {Z : Value → World → Prop} (X : List (Nat × Obj)) {Y R R1 : List (Nat × Obj)} {t e : TypeId} {m s y : Operand} {U u : Value} {z : γ} {l : List (κ × γ)} {k : κ} {st : Nat} (hk : ∀ {x y : κ}, beq x y = true ↔ x = y) (K : nP P kt kenc beq) (q : ST dd F w W μ (X ++ (R ++ (R1 ++ Y)))) (h : Ja beq kenc Q U l k st R) (hm : ji E m = U) (hs : ji E s = .int .i64 (st : Nat)) (hy : ji E y = u) (hq : Q u z R1) (hK : ∀ W' T R', ST dd F w W' μ (X ++ (R' ++ Y)) → lJ kenc Q U T (mC beq l k z) R' → Z undef W') : mg P E ⟨d, .entryStore t m s y, ty, pos, af, g⟩ W Z := by
 obtain ⟨c, es, clock, lv, A, B, i, en, rfl, rfl, L, n, j, hi, h3⟩ := h
 have hb : W.heap[c]? = some (.map es clock) := (q.box c (.map es clock) (by simp)).1
 have h5 : (getObj c : Sem Obj).run P W = .ok (.map es clock) W := by simp [getObj, Sem.run, hb]
 obtain ⟨p, hp, M⟩ := rH hi
 obtain ⟨p', J, o, O⟩ := L.val n
 rw [hp] at J
 cases J
 have a := L.put (beq := beq) k u
 rw [hi] at a
 have I : es.modify i (fun e => { e with val := u }) = es.modify i (fun e => { e with key := kenc k, val := u }) := Eu fun e he => by
  rw [n] at he; cases he
  have D : en.key = kenc k := by rw [o]; exact K.eq k p.1 M
  rw [← D]
 have G := Ow L.born n
 rw [j] at G
 have v : ST dd F w W μ (X ++ (c, .map es clock) :: (A ++ (B ++ (R1 ++ Y)))) := by simpa using q
 refine .inr (.inl ⟨ChangeMaps.setBlock W c (.map (es.modify i fun e => { e with key := kenc k, val := u }) clock), ?_, hK _ (mC beq lv k u) ((c, .map (es.modify i fun e => { e with key := kenc k, val := u }) clock) :: (A ++ (R1 ++ B))) ?_ ⟨[(c, .map (es.modify i fun e => { e with key := kenc k, val := u }) clock)], A ++ (R1 ++ B), rfl, ⟨c, _, _, rfl, rfl, ?_⟩, h3 u z R1 hq⟩⟩)
 ·show (do Instr.entryStore t (ji E m) (ji E s) (ji E y); pure .skip : Sem Next).run P W = _
  rw [hm, hs, hy]
  simp only [Instr.entryStore, aZ, h5, aN, asInt, asIntOf, bQ, G]
  rw [yj hb, I]
  rfl
 ·have := v.setBlock (.map (es.modify i fun e => { e with key := kenc k, val := u }) clock)
  refine this.perm ?_
  simp only [aC, bF]
  refine bK _ (List.Perm.cons _ (bK _ ?_))
  rw [← aC, ← aC]
  exact fu _ cM
 ·rw [qu hi]; exact a
end
end Go.Proofs.YtbnbdigcbldfhaaGreat
namespace Go.Proofs.YtbnbdigcbldfhaaGreat
open Go.RowKit
variable {dd : Bool}
section
variable {κ γ : Type} {Q : Value → γ → List (Nat × Obj) → Prop} {beq : κ → κ → Bool} {kenc : κ → Value}
def kU (kenc : κ → Value) (Q : Value → γ → List (Nat × Obj) → Prop) (v : Value) (l : List (κ × γ)) (R : List (Nat × Obj)) : Prop := ∃ a, lJ kenc Q v a l R
def rO (kenc : κ → Value) (Q : Value → γ → List (Nat × Obj) → Prop) (μ : jF) (v : Value) (l : List (κ × γ)) : Prop := ∃ a R, lJ kenc Q v a l R ∧ ∀ b o, (b, o) ∈ R → μ b = some o
theorem kU.at {v : Value} {l : List (κ × γ)} {R : List (Nat × Obj)} {μ : jF} (h : kU kenc Q v l R) (a : ∀ b o, (b, o) ∈ R → μ b = some o) : rO kenc Q μ v l := let ⟨c, h⟩ := h; ⟨c, R, h, a⟩
theorem rO.mono {v : Value} {l : List (κ × γ)} {μ μ' : jF} (h : rO kenc Q μ v l) (d : jC μ μ') : rO kenc Q μ' v l := let ⟨g, R, h, a⟩ := h; ⟨g, R, h, fun b o c => d _ _ (a b o c)⟩
theorem lJ.form {v : Value} {a : List (κ × Value)} {l : List (κ × γ)} {R : List (Nat × Obj)} (h : lJ kenc Q v a l R) : ∃ m, v = .map (some m) := let ⟨_, _, _, h, _⟩ := h; h.form
theorem lJ.e {v : Value} {a : List (κ × Value)} {l : List (κ × γ)} {R : List (Nat × Obj)} (h : lJ kenc Q v a l R) : kU kenc Q v l R := ⟨a, h⟩
theorem kU.form {v : Value} {l : List (κ × γ)} {R : List (Nat × Obj)} (h : kU kenc Q v l R) : ∃ m, v = .map (some m) := let ⟨_, h⟩ := h; h.form
theorem kU.new {v : Value} {R : List (Nat × Obj)} (h : kE (β := Value) kenc (fun x => x) v [] R) : kU kenc Q v [] R := ⟨[], R, [], (bp R).symm, h, rfl⟩
theorem lJ.rowAt {α : Type} {e : TypeId} {enc : α → List Value} {n : Nat} {g : Value} {c : List (κ × Value)} {l : List (κ × List α)} {R : List (Nat × Obj)} (hk : ∀ {x y : κ}, beq x y = true → x = y) (h : lJ kenc (jy e enc n) g c l R) (k : κ) :
  ∃ R1, jy e enc n (qP beq c k (.slice none 0 0)) ((kx beq l k).getD []) R1 ∧ ∀ b o, (b, o) ∈ R1 → (b, o) ∈ R := by
 cases a : kx beq l k with
 | none => refine ⟨[], ?_, fun b o h => by cases h⟩; rw [qP, h.M8 a]; exact .inl ⟨rfl, rfl, rfl⟩
 | some x =>
  obtain ⟨v, A, R1, B, g1, rfl, g3, _⟩ := h.found hk a
  refine ⟨R1, ?_, fun b o d => by simp [d]⟩
  rw [qP, g1]; exact g3
theorem jy.EH {α : Type} {e : TypeId} {enc : α → List Value} {k : Nat} {v : Value} {l : List α} {R : List (Nat × Obj)} (h : jy e enc k v l R) (hk : ∀ x, (enc x).length = k) : Sl (Pl enc) k (Be R) v l := by
 refine h.sl hk (fun b o a => ?_)
 rcases h with ⟨rfl, rfl, rfl⟩ | ⟨g, cap, c, rfl, rfl, _⟩
 ·cases a
 ·simp at a; obtain ⟨rfl, rfl⟩ := a; simp [Be]
end
theorem rM.hp (W : World) : rM (hp W) [] W := ⟨fun _ _ h => h, fun _ _ h => by cases h⟩
section
variable {P : Program} {W : World} {E : Nat → Value} {d : Option Nat} {ty : TypeId} {pos : String} {af : Array Edge} {g : Option (Nat × Bool)} {F : Nat → Prop} {w : World} {μ : jF} {L : List (Nat × Obj)}
theorem Hr {t k e : TypeId} (dd : Nat) (c : P.underlying t = some (.map k e)) (a : Option Nat) (W : World) : (Op.equalIn (dd + 1) t (.map a) (.map none)).run P W = .ok a.isNone W := by
 cases a <;> simp [Op.equalIn, ar c]
theorem NB {tx tv k e : TypeId} {x y : Operand} {r : Option Nat} {b : Bool} (h : P.underlying tx = some (.map k e)) (i : ji E x = .map r) (j : ji E y = .map none) (c : r.isNone = b) :
  kA P E ⟨d, .binOp .eql tx x y tv, ty, pos, af, g⟩ W (.bool b) W := by
 subst c
 show (do let r ← (do eqGuard .eql tx x y (ji E x) (ji E y); binOp .eql tx (ji E x) (ji E y)); pure (.value r) : Sem Next).run P W = _
 rw [i, j]
 have a := Hr 9999 h r W
 simp [eqGuard, binOp, Op.equal, show Op.maxDepth = 9999 + 1 from rfl, a]
theorem Lp {κ κ2 β : Type} {kenc : κ → Value} {kenc2 : κ2 → Value} {vf : β → Value} {beq : κ → κ → Bool} {tx tv kt e : TypeId} {x y : Operand} {n : Value} {a : List (κ × Value)} {l : List (κ × List (κ2 × β))} {R : List (Nat × Obj)} {k : κ} (hk : ∀ {x y : κ}, beq x y = true → x = y) (i : P.underlying tx = some (.map kt e)) (h : lJ kenc (kE kenc2 vf) n a l R) (j : ji E x = qP beq a k (.map none)) (m : ji E y = .map none) :
  kA P E ⟨d, .binOp .eql tx x y tv, ty, pos, af, g⟩ W (.bool (kx beq l k).isNone) W := by
 obtain ⟨r, h1, c⟩ := h.isNil hk k
 exact NB i (j.trans h1) m c
theorem Di {κ γ : Type} {c : Value → World → Prop} {t : TypeId} (kenc : κ → Value) (Q : Value → γ → List (Nat × Obj) → Prop) (a : ST dd F w W μ L) (i : ∀ W' v R, ST dd F w W' μ (R ++ L) → kU kenc Q v [] R → c v W') : mg P E ⟨d, .makeMap t none, ty, pos, af, g⟩ W c :=
 BD kenc (fun x : Value => x) a (fun W' v R h1 h => i W' v R h1 (kU.new h))
end
def pk {α : Type} (e : TypeId) (enc : α → List Value) (k : Nat) (v : Value) (l : List α) (R : List (Nat × Obj)) : Prop :=
 (v = .slice none 0 0 ∧ l = [] ∧ R = []) ∨
 ∃ g off cap a, v = .slice (some ⟨g, off, none⟩) l.length cap ∧ R = [(g, .cells a e (0, 0))] ∧ l.length ≤ cap ∧ cap ≤ maxLen ∧ off + cap * k ≤ a.size ∧ (a.toList.drop off).take (l.length * k) = (l.map enc).flatten
section
variable {α : Type} {e : TypeId} {enc : α → List Value} {k : Nat} {v : Value} {l : List α} {R : List (Nat × Obj)}
theorem pk.nil (e : TypeId) (enc : α → List Value) (k : Nat) : pk e enc k (.slice none 0 0) [] [] := .inl ⟨rfl, rfl, rfl⟩
theorem jy.TQ (h : jy e enc k v l R) : pk e enc k v l R := by
 rcases h with h | ⟨g, cap, a, h1, c, d, i, m, j⟩
 ·exact .inl h
 ·exact .inr ⟨g, 0, cap, a, h1, c, d, i, by omega, by simpa using j⟩
theorem pk.len (h : pk e enc k v l R) : l.length ≤ 9223372036854775807 := by
 rcases h with ⟨rfl, rfl, rfl⟩ | ⟨g, off, cap, a, rfl, rfl, h1, c, _⟩
 ·simp
 ·unfold maxLen at c; omega
theorem pk.form (h : pk e enc k v l R) : ∃ A c, v = .slice A l.length c := by
 rcases h with ⟨rfl, rfl, rfl⟩ | ⟨g, off, cap, a, rfl, rfl, _⟩
 ·exact ⟨_, _, rfl⟩
 ·exact ⟨_, _, rfl⟩
theorem pk.EH (h : pk e enc k v l R) (hk : ∀ x, (enc x).length = k) : Sl (Pl enc) k (Be R) v l := by
 rcases h with ⟨rfl, rfl, rfl⟩ | ⟨g, off, cap, a, rfl, rfl, h1, d, p, m⟩
 ·exact Sl.nil _ _ _
 ·refine ⟨_, cap, rfl, h1, d, fun _ => ⟨g, off, a, e, (0, 0), rfl, by simp [Be], fun i x n => ⟨enc x, hk x, rfl, fun j y o => ?_⟩⟩⟩
  have := wM hk l i x n j y o
  rw [← m] at this
  have c : i * k + j < l.length * k := by
   have := (aH.1 this).1
   simp at this; omega
  rw [cw c, cq] at this
  simpa [dG] using this
variable {P : Program} {W : World} {E : Nat → Value} {d : Option Nat} {ty : TypeId} {pos : String} {af : Array Edge} {g : Option (Nat × Bool)} {F : Nat → Prop} {w : World} {μ : jF} {L : List (Nat × Obj)}
theorem Qc {x : Operand} {t a : TypeId} (i : P.underlying t = some (.slice a)) (j : ji E x = v) (h : pk e enc k v l R) : kA P E ⟨d, .call ⟨.builtin .len, #[x], #[t]⟩, ty, pos, af, g⟩ W (.int .i64 l.length) W := by
 obtain ⟨A, c, rfl⟩ := h.form
 exact zw i j
theorem M3 {t p : TypeId} {x n : Operand} {J : IntKind} {i : Int} (y : P.underlying t = some (.slice p)) (he : ∀ w, (sizeOf p).run P w = .ok k w) (z : ji E x = v) (hi : ji E n = .int J i) (hk : ∀ x, (enc x).length = k) (h : pk e enc k v l R) (A : 0 ≤ i) (s : i ≤ l.length) :
  ∃ u, pk e enc k u (l.drop i.toNat) R ∧ ∀ W, kA P E ⟨d, .slice t x (some n) none none, ty, pos, af, g⟩ W u W := by
 rcases h with ⟨rfl, rfl, rfl⟩ | ⟨m, off, cap, c, rfl, rfl, h1, L, M, D⟩
 ·have : i = 0 := by simp at s; omega
  subst this
  refine ⟨.slice none 0 0, by simpa using pk.nil e enc k, fun W => ?_⟩
  show (do pure (.value (← Instr.sliceAt t (ji E x) (some (ji E n)) none none)) : Sem Next).run P W = _
  rw [z, hi]
  simp [Instr.sliceAt, Instr.slice, Instr.sliceBounds, Instr.sliceBound, asIntOf, ar y, he W]
 ·refine ⟨.slice (some (if cap = i.toNat then ⟨m, off, none⟩ else (Addr.add ⟨m, off, none⟩ (i.toNat * k)))) (l.length - i.toNat) (cap - i.toNat), .inr ?_, fun W => ?_⟩
  ·have a : (l.drop i.toNat).length = l.length - i.toNat := by simp
   have j : (l.map enc).flatten.drop (i.toNat * k) = ((l.drop i.toNat).map enc).flatten := by
    have F : l = l.take i.toNat ++ l.drop i.toNat := (dV _ _).symm
    have G : ((l.take i.toNat).map enc).flatten.length = i.toNat * k := by rw [nY hk, bx, bO (by omega)]
    conv => lhs; rw [F, bi, eG]
    rw [← G, List.drop_left]
   by_cases q : cap = i.toNat
   ·rw [aj q]
    have o : l.drop i.toNat = [] := List.drop_eq_nil_of_le (by omega)
    refine ⟨m, off, cap - i.toNat, c, by rw [o]; simp; omega, rfl, by rw [o]; simp, by omega, by have : (cap - i.toNat) * k ≤ cap * k := bd _ (by omega); omega, by rw [o]; simp⟩
   ·rw [ai q]
    refine ⟨m, off + i.toNat * k, cap - i.toNat, c, by rw [a, bV], rfl, by rw [a]; omega, by omega, ?_, ?_⟩
    ·have : i.toNat * k + (cap - i.toNat) * k = cap * k := by rw [← bo]; congr 1; omega
     omega
    ·rw [a, ← j, ← D, fl, List.drop_drop, Nat.sub_mul]
  ·show (do pure (.value (← Instr.sliceAt t (ji E x) (some (ji E n)) none none)) : Sem Next).run P W = _
   rw [z, hi]
   have I : 0 ≤ i ∧ i ≤ (l.length : Int) := ⟨A, s⟩
   simp [Instr.sliceAt, Instr.slice, Instr.sliceBounds, Instr.sliceBound, asIntOf, ar y, he W, I]
   split <;> rfl
theorem Ls {K : Value → World → Prop} {t : TypeId} {a1 : Nat} {z vs : Value} {m r : List α} (X : List (Nat × Obj)) {Y : List (Nat × Obj)} {x y : Operand} {i : TypeInfo} (a6 : ST dd F w W μ (X ++ (R ++ Y))) (hk : ∀ x, (enc x).length = k) (b2 : 0 < k) (h1 : ∀ x, ∀ u ∈ enc x, u.oneCell' = true) (ht : P.underlying t = some (.slice e)) (hi : P.info? e = some i) (hz : i.zero = some z) (ab : z.cells.size = k) (Z : i.size = k) (a7 : i.bytes = a1) (hx : ji E x = v) (hy : ji E y = vs) (hR : pk e enc k v l R) (hs : Sl (Pl enc) k (hp W) vs m) (hb : lj a1 l m = some r) (h : ∀ W' v' R', ST dd F w W' μ (X ++ (R' ++ Y)) → pk e enc k v' r R' → K v' W') : mg P E ⟨d, .call ⟨.builtin .append, #[x, y], #[t, t]⟩, ty, pos, af, g⟩ W K := by
 rcases hR with ⟨rfl, rfl, rfl⟩ | ⟨s, off, cap, p, rfl, rfl, h2, h3, h4, h5⟩
 ·exact JG X a6 hk b2 h1 ht hi hz ab Z a7 hx hy (jy.nil e enc k) hs hb (fun W' v' R' a b => h W' v' R' a b.TQ)
 unfold lj at hb
 split at hb
 case isFalse => cases hb
 rename_i U
 cases hb
 have Q : ∀ (V : Value) (W' : World), (Builtin.append_ #[t, t] ty #[.slice (some ⟨s, off, none⟩) l.length cap, vs]).run P W = .ok V W' → (execOp (ji E) ⟨d, .call ⟨.builtin .append, #[x, y], #[t, t]⟩, ty, pos, af, g⟩).run P W = .ok (.value V) W' := by
  intro V W' hV
  show (do let d ← resolve (ji E) ⟨.builtin .append, #[x, y], #[t, t]⟩ ty; invoke d.target d.args : Sem Next).run P W = _
  simp [resolve, invoke, builtin, hx, hy, hV]
 obtain ⟨A, c, rfl, b5, b6, aE⟩ := hs
 have J : ST dd F w W μ (X ++ (s, .cells p e (0, 0)) :: Y) := by simpa using a6
 have hg : W.heap[s]? = some (.cells p e (0, 0)) := (J.box s _ (by simp)).1
 have I := nY hk l
 have O : ∀ u ∈ (m.map enc).flatten, u.oneCell' = true := by
  intro u hu
  obtain ⟨ys, b4, b3⟩ := fQ.1 hu
  obtain ⟨x, _, rfl⟩ := aR.1 b4
  exact h1 x u b3
 have G : Src P i.size t (.slice A m.length c) m.length ((m.map enc).flatten) W := by
  rw [Z]
  rcases cH m.length with h0 | h0
  ·have hm : m = [] := aX h0
   subst hm
   cases A with
   | none => exact Src.ofNil W ht c
   | some ad => exact Src.ofSlice W ht ad 0 c [] (by simp) (fun j u hu => by simp at hu) (fun u hu => by cases hu)
  ·obtain ⟨b, o, cs, T, fr, rfl, h6, h7⟩ := aE h0
   refine Src.ofSlice W ht _ _ c _ (nY hk m) (fun j u hu => ?_) O
   obtain ⟨i, x, q, h8, h9, rfl⟩ := Gs hk m j u hu
   obtain ⟨ys, _, ao, av⟩ := h7 i x h8
   cases ao
   rw [bV, ee W b (o + (i * k + q)) cs T fr h6, ← dG]
   exact av q u h9
 have n := nY hk m
 have M : ((l ++ m).map enc).flatten = (l.map enc).flatten ++ (m.map enc).flatten := by simp
 generalize (m.map enc).flatten = fm at G O n M
 subst Z
 have b7 : l.length * i.size ≤ cap * i.size := bd _ h2
 by_cases D : l.length + m.length ≤ cap
 ·have b9 : l.length * i.size + m.length * i.size ≤ cap * i.size := by rw [← bo]; exact bd _ D
  have a8 := gW (P := P) s (off + l.length * i.size) e fm 0 p W hg (by rw [n]; omega) O
  have L : (Builtin.append_ #[t, t] ty #[.slice (some ⟨s, off, none⟩) l.length cap, .slice A m.length c]).run P W = .ok (.slice (some ⟨s, off, none⟩) (l.length + m.length) cap) (W.setRow s (p.toList.take (off + l.length * i.size) ++ fm ++ p.toList.drop (off + l.length * i.size + fm.length)).toArray) := by
   simp [Builtin.append_, ar ht, sizeOf, typeInfo, hi, G.len, D, G.cells, bV]
   simp only [iH] at a8
   rw [a8]
   simp
  refine .inl ⟨_, _, Q _ _ L, h _ _ [(s, _)] (by simpa using J.store _) (.inr ⟨s, off, cap, _, by rw [ah], rfl, by simpa using D, h3, ?_, ?_⟩)⟩
  ·simp only [bH, ah, bx, bY, bL, n]
   rw [bO (by omega)]
   omega
  ·have hA : (p.toList.take (off + l.length * i.size)).length = off + l.length * i.size := by simp; omega
   show ((p.toList.take (off + l.length * i.size) ++ (fm ++ p.toList.drop (off + l.length * i.size + fm.length))).drop off).take ((l ++ m).length * i.size) = _
   rw [M, List.drop_append, fl, hA, show off - (off + l.length * i.size) = 0 by omega, List.drop_zero, show off + l.length * i.size - off = l.length * i.size by omega, h5]
   rw [ah, bo, dt, dt, I, n, bN (by rw [I]; omega), show l.length * i.size + m.length * i.size - l.length * i.size = m.length * i.size by omega, bN (by rw [n]; omega)]
   simp
 ·have hold : (Builtin.firstCells i.size l.length (.slice (some ⟨s, off, none⟩) l.length cap)).run P W.drew = .ok ((l.map enc).flatten).toArray W.drew := by
   refine run_firstCells_some W.drew i.size l.length ⟨s, off, none⟩ l.length cap _ I (fun j u hu => ?_)
   rw [bV]
   show W.cell? ⟨s, off + j, none⟩ = some u
   rw [ee W s (off + j) p e (0, 0) hg]
   rw [← h5] at hu
   have hj : j < l.length * i.size := by have := (aH.1 hu).1; simp at this; omega
   rw [cw hj, cq] at hu
   simpa using hu
  have hlen : (l ++ m).length = l.length + m.length := ah
  have b1 := grownCap_ge W (l.length + m.length) cap e
  have b0 := gC W (l.length + m.length) cap e U.2
  have L := run_append_grow_src (P := P) W t t ty e i z ht hi hz (some ⟨s, off, none⟩) l.length cap ((l.map enc).flatten) hold _ m.length _ G (by omega) (by have := U.2; unfold maxLen at this; omega) (growslice_fits (by omega) (by rw [a7]; exact U.1))
  have h6 := J.drew.alloc (.cells (((l.map enc).flatten ++ fm).toArray ++ Builtin.zeroCells z.cells (grownCap W (l.length + m.length) cap e - (l.length + m.length))) e (0, 0))
  have h7 := (ST.drop (A := (W.drew.heap.size, _) :: X) h6).perm (L' := X ++ ([(W.heap.size, _)] ++ Y)) (by simpa using (dK (a := (W.heap.size, _)) (l₁ := X) (l₂ := Y)).symm)
  refine .inl ⟨_, _, Q _ _ L, h _ _ _ h7 (jy.TQ (.inr ⟨W.heap.size, grownCap W (l.length + m.length) cap e, _, by rw [hlen], rfl, by rw [hlen]; exact b1, b0, ?_, ?_⟩))⟩
  ·rw [Array.size_append, size_zeroCells, ab]
   simp only [bH, ah, I, n]
   rw [← bo, ← bo]
   congr 1
   omega
  ·rw [Array.toList_append, List.toList_toArray, hlen, M, List.take_append_of_le_length (by simp only [ah, I, n]; rw [bo]; exact aM _), bN (by simp only [ah, I, n]; rw [bo]; exact aM _)]
end
end Go.Proofs.YtbnbdigcbldfhaaGreat
namespace Go.Proofs.YtbnbdigcbldfhaaGreat
open Go.RowKit
section
variable {P : Program} {ops : Array Oper} {Q : Exit → Act → World → Prop} {S : Array Bool → World → Prop}
def xu (ops : Array Oper) (l : Array Bool) : Prop := ∀ j o, ops[j]? = some o → l.getD j true = true → ∀ e ∈ o.after, Region.binds .any e = true → l.getD e.on true = true
def Ha (ops : Array Oper) : Nat → List Nat → Bool
 | _, [] => true
 | j, k :: r => (match ops[j]? with | some o => o.after.any (fun e => Region.binds .any e && e.on == k) | none => false) && Ha ops k r
theorem GO {l : Array Bool} (d : xu ops l) : ∀ (r : List Nat) (j i : Nat), Ha ops j r = true → (j :: r).getLast? = some i → l.getD j true = true → l.getD i true = true
 | [], j, i, _, h, a => by simp at h; subst h; exact a
 | k :: r, j, i, h, m, a => by
  simp only [Ha, az] at h
  obtain ⟨h1, g⟩ := h
  cases c : ops[j]? with
  | none => rw [c] at h1; cases h1
  | some o =>
   rw [c] at h1
   simp only [Array.any_eq_true] at h1
   obtain ⟨n, p, h1⟩ := h1
   simp only [az, eP] at h1
   have := d j o c a o.after[n] (Array.getElem_mem p) h1.1
   rw [h1.2] at this
   exact GO d r k i g (by simpa [List.getLast?_cons_cons] using m) this
def Gm (ops : Array Oper) (i : Nat) (l : Array Bool) : Prop := xu ops l ∧ l.getD i true = false
theorem Gm.Mz {l : Array Bool} {i : Nat} (h : Gm ops i l) (j : Nat) (r : List Nat) (a : Ha ops j r = true) (d : (j :: r).getLast? = some i) : l.getD j true = false := by
 cases c : l.getD j true with
 | false => rfl
 | true => have := GO h.1 r j i a d c; rw [h.2] at this; cases this
theorem xu.start (n : Nat) (h : n = ops.size) : xu ops (Array.replicate n false) := by
 subst h
 intro j o d c
 have a : j < ops.size := (bE.1 d).1
 simp [a] at c
theorem xu.set {l : Array Bool} {i : Nat} (h : xu ops l) (s : i ∈ Region.ready .any ops l) : xu ops (l.setIfInBounds i true) := by
 intro j o q p e he n
 have up : ∀ {k : Nat}, l.getD k true = true → (l.setIfInBounds i true).getD k true = true := fun {k} hk => by
  by_cases d : i = k
  ·subst d
   by_cases m : i < l.size
   ·simp [m]
   ·simp [m]
  ·rw [iT true d]; exact hk
 by_cases c : i = j
 ·subst c
  obtain ⟨_, t, g, a⟩ := iZ.1 s
  rw [q] at g
  cases g
  refine up ?_
  have := a e he n
  by_cases m : e.on < l.size
  ·simp [m] at this ⊢; exact this
  ·simp [m]
 ·rw [iT true c] at p
  exact up (h j o q p e he n)
def CL (P : Program) (ops : Array Oper) (S : Array Bool → World → Prop) (i : Nat) (o : Oper) (v : Value) (a : Act) : Prop :=
 (Region.wanted o (yielded ops a.tmps) = true ∧ ∀ l w, Gm ops i l → S l w → (execOp a.eval o).run P w = .ok (.value v) w) ∨
 (Region.wanted o (yielded ops a.tmps) = false ∧ v = undef)
theorem CL.TR {i : Nat} {o : Oper} {v : Value} {a : Act} {l : Array Bool} (h : CL P ops S i o v a) (hp : Gm ops i l) : YieldsIf P ops (S l) o v a :=
 h.imp (fun ⟨h1, c⟩ => ⟨h1, fun w hw => c l w hp hw⟩) id
def OU (P : Program) (ops : Array Oper) (Q : Exit → Act → World → Prop) (S : Array Bool → World → Prop) : Nat → Array Bool → Act → World → Prop
 | 0, l, a, w => Region.ready .any ops l = [] ∧ Q .normal a w
 | n + 1, l, a, w => (Region.ready .any ops l = [] → Q .normal a w) ∧
  ∀ i ∈ Region.ready .any ops l, wpOp P ops Q i (fun d c => S (l.setIfInBounds i true) c ∧ OU P ops Q S n (l.setIfInBounds i true) d c) a w
theorem LA : ∀ (n : Nat) (l : Array Bool) (a : Act) (w : World), OU P ops Q S n l a w → wpAny P .any ops Q n l a w
 | 0, _, _, _, h => h
 | n + 1, _, _, _, h => ⟨h.1, fun i hi => wpOp_mono (fun c g d => LA n _ c g d.2) (h.2 i hi)⟩
theorem OW {i j : Nat} {d p : Oper} {v : Value} (u : ops[j]? = some p) (m : d.apart ops p = true) (n : ∀ cs b, d.op ≠ .select cs b) (o : ∀ cs b, p.op ≠ .select cs b) (t : ∀ c a w, Q (.panic c) (a.put d.dst v) w → Q (.panic c) a w) {K : Act → World → Prop} {a : Act} {w : World} (x : CL P ops S i d v a) (h : wpOp P ops Q j K (a.put d.dst v) w) :
  wpOp P ops Q j (fun g s => CL P ops S i d v g ∧ K (g.put d.dst v) s) a w := by
 have h1 : YieldsIf P ops (fun w => ∃ l, Gm ops i l ∧ S l w) d v a := x.imp (fun ⟨h1, k⟩ => ⟨h1, fun w ⟨l, hp, hw⟩ => k l w hp hw⟩) id
 refine wpOp_mono (fun g s q => ⟨q.1.imp (fun ⟨h1, k⟩ => ⟨h1, fun l w hp hw => k w ⟨l, hp, hw⟩⟩) id, q.2⟩) (wpOp_putIf (S := fun w => ∃ l, Gm ops i l ∧ S l w) u m n o t h1 h)
theorem Io {i : Nat} {y : Oper} {v : Value} (hi : ops[i]? = some y) (t : ∀ (j : Nat) (o : Oper) cs b, ops[j]? = some o → o.op ≠ .select cs b) (hQ : ∀ c a w, Q (.panic c) (a.put y.dst v) w → Q (.panic c) a w) (hm : ∀ l w, S (l.setIfInBounds i true) w → S l w) :
  ∀ (n : Nat) (l : Array Bool) (a : Act) (w : World), (∀ j z, ops[j]? = some z → j ≠ i → l.getD j true = false → (∀ e ∈ z.after, Region.binds .any e = true → e.on ≠ i) → y.apart ops z = true) →
   xu ops l → i ∈ Region.ready .any ops l → CL P ops S i y v a → S (l.setIfInBounds i true) w → OU P ops Q S n (l.setIfInBounds i true) (a.put y.dst v) w → OU P ops Q S (n + 1) l a w := by
 intro n
 induction n with
 | zero =>
  intro l a w _ L q M A H
  refine ⟨fun h => (by rw [h] at q; cases q), fun j F => ?_⟩
  by_cases d : j = i
  ·subst d
   exact (M.TR ⟨L, (iZ.1 q).1⟩).wpOp hi (hm l w A) ⟨A, H⟩
  ·have := ready_mono F d
   rw [H.1] at this
   cases this
 | succ n ih =>
  intro l a w m L q M A H
  refine ⟨fun h => (by rw [h] at q; cases q), fun j F => ?_⟩
  by_cases d : j = i
  ·subst d
   exact (M.TR ⟨L, (iZ.1 q).1⟩).wpOp hi (hm l w A) ⟨A, H⟩
  have h1 := H.2 j (ready_mono F d)
  obtain ⟨s, z, x, D⟩ := iZ.1 F
  have I : ∀ e ∈ z.after, Region.binds .any e = true → e.on ≠ i := fun e he hb T => by
   have u := D e he hb
   have Z := (iZ.1 q).1
   rw [T] at u
   rcases Nat.lt_or_ge i l.size with O | O
   ·simp [O] at Z u; rw [Z] at u; cases u
   ·simp [Array.getElem?_eq_none O] at u
  have u := OW x (m j z x d s I) (fun cs b => t i y cs b hi) (fun cs b => t j z cs b x) hQ M h1
  have p : ∀ k ok, ops[k]? = some ok → k ≠ i → (l.setIfInBounds j true).getD k true = false → (∀ e ∈ ok.after, Region.binds .any e = true → e.on ≠ i) → y.apart ops ok = true := fun k ok hk U J W => by
   refine m k ok hk U ?_ W
   by_cases G : j = k
   ·subst G; exact s
   ·rw [iT true G] at J; exact J
  have g : (l.setIfInBounds i true).setIfInBounds j true = (l.setIfInBounds j true).setIfInBounds i true := Array.setIfInBounds_comm _ _ (Ne.symm d)
  refine wpOp_mono (fun a' Y R => ?_) u
  have h4 : S ((l.setIfInBounds j true).setIfInBounds i true) Y := by rw [← g]; exact R.2.1
  refine ⟨hm _ Y h4, ih (l.setIfInBounds j true) a' Y p (L.set F) (ready_mono q (Ne.symm d)) R.1 h4 ?_⟩
  rw [← g]
  exact R.2.2
end
def PX (P : Program) (n : Nat) (ops : Array Oper) (Q : mP) (S : Array Bool → World → Prop) (fuel : Nat) (listed : Array Bool) (E : Nat → Value) (W : World) : Prop :=
 xu ops listed → ∀ a, Ag n a E → OU P ops (lift n Q) S fuel listed a W
section
variable {P : Program} {n : Nat} {Q : mP} {E : Nat → Value} {W : World} {ops : Array Oper} {S : Array Bool → World → Prop} {fuel : Nat} {listed : Array Bool}
theorem Kp {id : Nat} {l : List Oper} (S : Array Bool → World → Prop) (hm : P.follows .mixedOrders = true) (h : PX P n l.toArray Q S l.length (Array.replicate l.length false) E W.drew) : CW P n (.region id l.toArray true) Q E W := fun a c =>
 wp_region_any hm (LA _ _ _ _ (h (xu.start _ (by simp)) a c))
def DT (ops : Array Oper) (listed : Array Bool) (i : Nat) : Bool := Region.noSelect ops && Region.free .any ops listed i && (Region.ready .any ops listed).contains i
theorem lT {o : Oper} {dd : Nat} {v : Value} (i : Nat) (hi : ops[i]? = some o) (hk : DT ops listed i = true) (hw : lV n ops E o) (m : o.dst = some dd) (p : dd < n) (hm : ∀ l w, S (l.setIfInBounds i true) w → S l w) (k : S (listed.setIfInBounds i true) W) (q : ∀ l W, Gm ops i l → S l W → kA P E o W v W) (h : PX P n ops Q S fuel (listed.setIfInBounds i true) (mu E dd v) W) : PX P n ops Q S (fuel + 1) listed E W := fun g a c => by
 simp only [DT, az] at hk
 have j : i ∈ Region.ready .any ops listed := by simpa using hk.2
 exact Io hi (Region.noSelect_spec hk.1.1) (fun _ _ _ h => JI h) hm fuel listed a W (Region.free_spec hi hk.1.2) g j (.inl ⟨hw.of c, fun l w hp d => by rw [c.eval]; exact q l w hp d⟩) k (by rw [m]; exact h (g.set j) _ (c.put p v))
theorem Ph {A : Value → Prop} {o : Oper} {dd : Nat} (i : Nat) (hi : ops[i]? = some o) (hk : DT ops listed i = true) (hw : lV n ops E o) (d : o.dst = some dd) (g : dd < n) (hm : ∀ l w, S (l.setIfInBounds i true) w → S l w) (c : S (listed.setIfInBounds i true) W) (j : ∃ p, A p ∧ ∀ W, kA P E o W p W) (h : ∀ p, A p → PX P n ops Q S fuel (listed.setIfInBounds i true) (mu E dd p) W) : PX P n ops Q S (fuel + 1) listed E W := by
 obtain ⟨p, h1, a⟩ := j
 exact lT i hi hk hw d g hm c (fun _ W _ _ => a W) (h p h1)
theorem Q5 {o : Oper} {dd : Nat} (i : Nat) (hi : ops[i]? = some o) (hk : DT ops listed i = true) (hw : ∀ a, Ag n a E → Region.wanted o (yielded ops a.tmps) = false) (k : o.dst = some dd) (m : dd < n) (hm : ∀ l w, S (l.setIfInBounds i true) w → S l w) (j : S (listed.setIfInBounds i true) W) (h : PX P n ops Q S fuel (listed.setIfInBounds i true) (mu E dd undef) W) : PX P n ops Q S (fuel + 1) listed E W := fun d a c => by
 simp only [DT, az] at hk
 have g : i ∈ Region.ready .any ops listed := by simpa using hk.2
 exact Io hi (Region.noSelect_spec hk.1.1) (fun _ _ _ h => JI h) hm fuel listed a W (Region.free_spec hi hk.1.2) d g (.inr ⟨hw a c, rfl⟩) j (by rw [k]; exact h (d.set g) _ (c.put m _))
theorem TD {o : Oper} {dd j t : Nat} {want : Bool} (i : Nat) (hi : ops[i]? = some o) (hk : DT ops listed i = true) (m : o.guard = some (j, want)) (p : (ops[j]?).bind (·.dst) = some t) (s : t < n) (c : E t = .bool (!want)) (k : o.dst = some dd) (q : dd < n) (hm : ∀ l w, S (l.setIfInBounds i true) w → S l w) (d : S (listed.setIfInBounds i true) W) (h : PX P n ops Q S fuel (listed.setIfInBounds i true) (mu E dd undef) W) : PX P n ops Q S (fuel + 1) listed E W :=
 Q5 i hi hk (fun a g => by have u := g.yield p s c; simp [Region.wanted, m, u]) k q hm d h
theorem PB {o : Oper} {dd : Nat} (i : Nat) (hi : ops[i]? = some o) (k : Region.ready .any ops listed = [i]) (hw : lV n ops E o) (p : o.dst = some dd) (q : dd < n) (h : mg P E o W fun v W' => S (listed.setIfInBounds i true) W' ∧ PX P n ops Q S fuel (listed.setIfInBounds i true) (mu E dd v) W') : PX P n ops Q S (fuel + 1) listed E W := fun m a g => by
 have c : i ∈ Region.ready .any ops listed := by rw [k]; simp
 refine ⟨fun u => (by rw [u] at k; cases k), fun j s => ?_⟩
 rw [k] at s
 obtain rfl := aF.1 s
 unfold wpOp
 simp only [hi]
 rw [aj (hw.of g)]
 refine .inl ?_
 unfold Oper.wp
 rw [g.eval]
 rcases h with ⟨v, W', h1, d⟩ | ⟨W', h1, d⟩ | ⟨f, args, h1, d⟩
 ·rw [h1, dl]; exact ⟨d.1, by rw [p]; exact d.2 (m.set c) _ (g.put q v)⟩
 ·rw [h1, ed]; exact ⟨d.1, by rw [p]; exact d.2 (m.set c) _ (g.put q _)⟩
 ·rw [h1, dm]
  refine bw d ?_
  rintro e w ⟨v, rfl, t⟩
  exact ⟨t.1, by simp only [p]; exact t.2 (m.set c) _ (g.put q v)⟩
theorem To {o : Oper} (i : Nat) (hi : ops[i]? = some o) (k : Region.ready .any ops listed = [i]) (hw : lV n ops E o) (p : o.dst = none) (h : mg P E o W fun _ W' => S (listed.setIfInBounds i true) W' ∧ PX P n ops Q S fuel (listed.setIfInBounds i true) E W') : PX P n ops Q S (fuel + 1) listed E W := fun m a g => by
 have c : i ∈ Region.ready .any ops listed := by rw [k]; simp
 refine ⟨fun t => (by rw [t] at k; cases k), fun j q => ?_⟩
 rw [k] at q
 obtain rfl := aF.1 q
 unfold wpOp
 simp only [hi]
 rw [aj (hw.of g)]
 refine .inl ?_
 unfold Oper.wp
 rw [g.eval]
 rcases h with ⟨v, W', h1, d⟩ | ⟨W', h1, d⟩ | ⟨f, args, h1, d⟩
 ·rw [h1, dl, p]; exact ⟨d.1, d.2 (m.set c) _ (g.uD _)⟩
 ·rw [h1, ed, p]; exact ⟨d.1, d.2 (m.set c) _ (g.uD _)⟩
 ·rw [h1, dm]
  refine bw d ?_
  rintro e u ⟨v, rfl, s⟩
  simp only [p]
  exact ⟨s.1, s.2 (m.set c) _ (g.uD _)⟩
theorem kz (d : Region.ready .any ops listed = []) (h : Q .normal E W) : PX P n ops Q S fuel listed E W := fun _ a c => by
 cases fuel with
 | zero => exact ⟨d, E, c, h⟩
 | succ f => exact ⟨fun _ => ⟨E, c, h⟩, fun i hi => by rw [d] at hi; cases hi⟩
theorem JX {p : Prop} {b : Bool} (a : b = true) (h : b = false) : p := by rw [a] at h; cases h
theorem tL {a : Array Bool} (c : listed = a) (h : PX P n ops Q S fuel a E W) : PX P n ops Q S fuel listed E W := by rw [c]; exact h
theorem oF {l : Array Bool} {i j : Nat} {A : Prop} (a : Nat.beq i j = false) (h : (l.setIfInBounds i true).getD j true = false → A) : l.getD j true = false → A := fun c => h (by
 rw [iT true (fun e => by subst e; simp at a)]; exact c)
end
theorem DH.at {α : Type} {e : TypeId} {enc : α → List Value} {k : Nat} {v : Value} {l : List α} {R : List (Nat × Obj)} (h : jy e enc k v l R) (hk : ∀ x, (enc x).length = k) {p : Value} {i : Nat} (hp : DH R k p i) {x : α} (g : l[i]? = some x) : At (Be R) p (enc x) := by
 obtain ⟨c, a, cap, rfl, rfl, _, _, _, _, rfl, d⟩ := AZ h hk hp g
 exact ⟨c, i * k, a, e, (0, 0), rfl, by simp [Be], d⟩
theorem uN.form {κ β : Type} {kenc : κ → Value} {vf : β → Value} {μ : jF} {v : Value} {l : List (κ × β)} (h : uN kenc vf μ v l) : ∃ r, v = .map r := by
 rcases h with ⟨h, _⟩ | ⟨m, es, clock, h, _⟩
 ·exact ⟨_, h⟩
 ·exact ⟨_, h⟩
section
variable {P : Program} {W : World} {E : Nat → Value} {d : Option Nat} {ty : TypeId} {pos : String} {af : Array Edge} {g : Option (Nat × Bool)}
theorem IA {tx tv : TypeId} {x y : Operand} {α β : Type} {fv : Value} {μ : jF} {c : α → List Value} {m : β → Value} {pm : α → Option β} {s u : Array TypeId} {bb : Bool} (i : P.underlying tx = some (.func s u bb)) (h : qZ P fv μ c m pm) (j : ji E x = fv) (k : ji E y = .nilFunc) :
  kA P E ⟨d, .binOp .eql tx x y tv, ty, pos, af, g⟩ W (.bool false) W := by
 obtain ⟨f, a, b, rfl⟩ := h.form
 exact KY i j k
end
noncomputable def GL {β : Type} (l : List (ByteArray × β)) : Option (List ByteArray) :=
 open Classical in if (l.map (·.1)).Nodup ∧ (∀ p ∈ l, p.1.size ≤ maxLen) ∧ l.length * 16 ≤ 140737488355328 then some (np (l.map (·.1))) else none
def OK {κ κ2 β α : Type} (a : Nat) (mk : κ → κ2 → α) (l : List (κ × List (κ2 × β))) : Option (List α) :=
 if (l.flatMap (fun p => p.2.map (fun q => mk p.1 q.1))).length * a ≤ 140737488355328 ∧ (l.flatMap (fun p => p.2.map (fun q => mk p.1 q.1))).length ≤ maxLen then some (l.flatMap (fun p => p.2.map (fun q => mk p.1 q.1))) else none
section
variable {P : Program} {n : Nat} {Q : mP} {E : Nat → Value} {W : World} {ops : Array Oper} {rest : List Oper}
variable {dd : Bool} {α : Type} {enc : α → List Value} {k : Nat} {μ : jF} {v : Value}
variable {d : Option Nat} {ty : TypeId} {pos : String} {af : Array Edge} {g : Option (Nat × Bool)} {F : Nat → Prop} {w : World} {L : List (Nat × Obj)}
def zT (enc : α → List Value) (k : Nat) : qa (List α) := fun μ ys x => ∃ v, ys = [v] ∧ Sl (Pl enc) k μ v x
theorem zT.mono (enc : α → List Value) (k : Nat) : GP (zT enc k) := fun _ _ _ _ c ⟨v, h1, a⟩ => ⟨v, h1, a.mono (Pl.mono _) c⟩
inductive BE (enc : α → List Value) (k : Nat) (μ : jF) : List Value → List (List α) → Prop
 | nil : BE enc k μ [] []
 | cons {v : Value} {x : List α} {vs : List Value} {l : List (List α)} : Sl (Pl enc) k μ v x → BE enc k μ vs l → BE enc k μ (v :: vs) (x :: l)
theorem BE.length {vs : List Value} {l : List (List α)} (h : BE enc k μ vs l) : vs.length = l.length := by
 induction h with
 | nil => rfl
 | cons _ _ ih => simp [ih]
theorem BE.get {vs : List Value} {l : List (List α)} (h : BE enc k μ vs l) : ∀ (i : Nat) (x : List α), l[i]? = some x → ∃ v, vs[i]? = some v ∧ Sl (Pl enc) k μ v x := by
 induction h with
 | nil => intro i x a; simp at a
 | cons h1 _ ih =>
  intro i x a
  cases i with
  | zero => simp at a; subst a; exact ⟨_, rfl, h1⟩
  | succ i => simpa using ih i x (by simpa using a)
theorem zT.lit {b m : Nat} {vs : List Value} {e : TypeId} {l : List (List α)} (hm : l.length = m) (d : m ≤ maxLen) (g : μ b = some (.cells vs.toArray e (0, 0))) (h : BE enc k μ vs l) : Sl (zT enc k) 1 μ (.slice (some ⟨b, 0, none⟩) m m) l := by
 subst hm
 refine ⟨_, _, rfl, aM _, d, fun _ => ⟨b, 0, _, _, _, rfl, g, fun i x n => ?_⟩⟩
 obtain ⟨v, h1, c⟩ := h.get i x n
 refine ⟨[v], rfl, ⟨v, rfl, c⟩, fun j y a => ?_⟩
 cases j with
 | zero => simp at a; subst a; simpa using h1
 | succ j => simp at a
theorem Gc {k2 : Nat} {t e : TypeId} {x a : Operand} {s : IntKind} {i : Int} {l : List (List α)} {x0 : List α} (o : P.underlying t = some (.slice e)) (he : ∀ w, (sizeOf e).run P w = .ok 1 w) (q : ji E x = v) (hi : ji E a = .int s i) (n : Sl (zT enc k2) 1 μ v l) (c : 0 ≤ i) (m : l[i.toNat]? = some x0) :
  ∃ p, (∃ v0, At μ p [v0] ∧ Sl (Pl enc) k2 μ v0 x0) ∧ ∀ W, kA P E ⟨d, .indexAddr t x a, ty, pos, af, g⟩ W p W := by
 obtain ⟨p, ys, h1, ⟨v0, rfl, h⟩, j, k⟩ := HQ (d := d) (ty := ty) (pos := pos) (af := af) (g := g) o he q hi n c m
 exact ⟨p, ⟨v0, j, h⟩, k⟩
theorem Kf {x : Operand} {t e : TypeId} (a : P.underlying t = some (.slice e)) (c : ji E x = .slice none 0 0) : kA P E ⟨d, .call ⟨.builtin .cap, #[x], #[t]⟩, ty, pos, af, g⟩ W (.int .i64 0) W := by
 show (do let d ← resolve (ji E) ⟨.builtin .cap, #[x], #[t]⟩ ty; invoke d.target d.args : Sem Next).run P W = _
 simp [resolve, invoke, builtin, Builtin.cap_, ar a, c, goInt]
theorem OM {x y : Operand} {ats : Array TypeId} {k : IntKind} {a b : Int} (c : ji E x = .int k a) (h : ji E y = .int k b) :
  kA P E ⟨d, .call ⟨.builtin .max, #[x, y], ats⟩, ty, pos, af, g⟩ W (.int k (if b > a then b else a)) W := by
 show (do let d ← resolve (ji E) ⟨.builtin .max, #[x, y], ats⟩ ty; invoke d.target d.args : Sem Next).run P W = _
 simp [resolve, invoke, c, h, builtin, Builtin.max_, Builtin.max2]
theorem NI {t e : TypeId} {x ih : Operand} {h : IntKind} (a : P.underlying t = some (.slice e)) (he : ∀ w, (sizeOf e).run P w = .ok k w) (c : ji E x = .slice none 0 0) (hi : ji E ih = .int h 0) :
  kA P E ⟨d, .slice t x none (some ih) none, ty, pos, af, g⟩ W (.slice none 0 0) W := by
 show (do pure (.value (← Instr.sliceAt t (ji E x) none (some (ji E ih)) none)) : Sem Next).run P W = _
 rw [c, hi]
 simp [Instr.sliceAt, Instr.slice, Instr.sliceBounds, Instr.sliceBound, asIntOf, ar a, he W]
def Hs {α : Type} (a : Nat) (z : α) (n : Int) : Option (List α) := if 0 < n ∧ n * a ≤ 140737488355328 ∧ n ≤ (maxLen : Int) then some (List.replicate n.toNat z) else none
theorem GD (t m ty e : TypeId) (i : TypeInfo) (z : Value) (v : P.underlying t = some (.slice e)) (k : P.underlying m = some (.int .i64)) (hi : P.info? e = some i) (w : i.zero = some z) (n : Nat) (o : 0 < n) (u : 0 < i.size) (p : n ≤ 9223372036854775807) (d : n * i.bytes ≤ 140737488355328) (W : World) :
  (Builtin.append_ #[t, m] ty #[.slice none 0 0, .int .i64 (n : Int)]).run P W =
   .ok (.slice (some ⟨W.heap.size, 0, none⟩) n (grownCap W n 0 e)) (W.drew.alloc (.cells (Builtin.zeroCells z.cells n ++ Builtin.zeroCells z.cells (grownCap W n 0 e - n)) e)) := by
 have hw : IntKind.i64.wrap (n : Int) = (n : Int) := by unfold IntKind.wrap; simp [IntKind.bits, IntKind.signed]; omega
 have h1 : ¬ ((n : Int) < 0) := by omega
 have a : ¬ (281474976710656 < (n : Int) * i.bytes) := by
  have := Int.ofNat_le.2 d
  rw [Int.natCast_mul] at this
  omega
 have g : ¬ (n * i.size = 0) := fun h => by rcases Nat.mul_eq_zero.1 h with h | h <;> omega
 have q : n ≠ 0 := by omega
 have s : i.size ≠ 0 := by omega
 have c : ¬ (9223372036854775807 < (n : Int)) := by omega
 have j : ¬ (281474976710656 < Builtin.nextslicecap n 0 * i.bytes) := by rw [nextslicecap_zero o]; omega
 simp [Builtin.append_, ar v, ar k, sizeOf, typeInfo, zeroValue, hi, w, asInt, asIntOf, hw, h1, a, q, c, j, Question.forced, run_firstCells_none, newRow, grownCap]
 exact fun h => absurd h g
theorem Jv {K : Value → World → Prop} {α : Type} {e t A : TypeId} {enc : α → List Value} {k q : Nat} {c : Value} {n : Int} {z : α} {r : List α} (X : List (Nat × Obj)) {Y : List (Nat × Obj)} {x y : Operand} {i : TypeInfo} (j : ST dd F w W μ (X ++ Y)) (hk : ∀ x, (enc x).length = k) (R : 0 < k) (ht : P.underlying t = some (.slice e)) (Z : P.underlying A = some (.int .i64)) (hi : P.info? e = some i) (hz : i.zero = some c) (U : i.size = k) (L : i.bytes = q) (hc : c.cells = (enc z).toArray) (hx : ji E x = .slice none 0 0) (hy : ji E y = .int .i64 n) (a : Hs q z n = some r) (h : ∀ W' v' R', ST dd F w W' μ (X ++ (R' ++ Y)) → jy e enc k v' r R' → K v' W') : mg P E ⟨d, .call ⟨.builtin .append, #[x, y], #[t, A]⟩, ty, pos, af, g⟩ W K := by
 unfold Hs at a
 split at a
 case isFalse => cases a
 rename_i J
 cases a
 obtain ⟨n, rfl⟩ : ∃ m : Nat, n = (m : Int) := ⟨n.toNat, by omega⟩
 have T : 0 < n := by omega
 subst U; subst L
 have hM : n ≤ maxLen := by omega
 have I : n ≤ 9223372036854775807 := by simp only [maxLen] at hM; omega
 have G : n * i.bytes ≤ 140737488355328 := Int.ofNat_le.1 (by rw [Int.natCast_mul]; exact J.2.1)
 have hr := GD (P := P) t A ty e i c ht Z hi hz n T R I G W
 have u : (execOp (ji E) ⟨d, .call ⟨.builtin .append, #[x, y], #[t, A]⟩, ty, pos, af, g⟩).run P W = .ok (.value (.slice (some ⟨W.heap.size, 0, none⟩) n (grownCap W n 0 e))) (W.drew.alloc (.cells (Builtin.zeroCells c.cells n ++ Builtin.zeroCells c.cells (grownCap W n 0 e - n)) e)) := by
  show (do let d ← resolve (ji E) ⟨.builtin .append, #[x, y], #[t, A]⟩ ty; invoke d.target d.args : Sem Next).run P W = _
  simp [resolve, invoke, builtin, hx, hy, hr]
 have O := nA _ _ _ _ hr
 refine .inl ⟨_, _, u, ?_⟩
 have Q := grownCap_ge W n 0 e
 have M : grownCap W n 0 e ≤ maxLen := gC W n 0 e hM
 have a1 : ∀ m, (Builtin.zeroCells c.cells m).toList = (List.replicate m (enc z)).flatten := fun m => by rw [hc, CK]
 have v : c.cells.size = i.size := by rw [hc, bH, hk]
 have p : jy e enc i.size (.slice (some ⟨W.heap.size, 0, none⟩) n (grownCap W n 0 e)) (List.replicate n z) [(W.heap.size, .cells (Builtin.zeroCells c.cells n ++ Builtin.zeroCells c.cells (grownCap W n 0 e - n)) e (0, 0))] := by
  refine .inr ⟨W.heap.size, grownCap W n 0 e, _, by rw [fN], rfl, by simpa using Q, M, ?_, ?_⟩
  ·simp only [Array.size_append, size_zeroCells, v, ← bo]
   congr 1
   omega
  ·have D : (Builtin.zeroCells c.cells n).toList.length = n * i.size := by rw [bL, size_zeroCells, v]
   rw [fN, Array.toList_append, ← D, fw, a1, gD]
 refine h _ _ _ ?_ p
 have hex : Ex dd W (W.drew.alloc (.cells (Builtin.zeroCells c.cells n ++ Builtin.zeroCells c.cells (grownCap W n 0 e - n)) e)) := ⟨rfl, rfl, rfl, sC.of O, by simp, fun b a => heap_alloc_old W.drew _ a⟩
 have h1 := j.Fi hex
 have s := h1.nd
 refine ⟨h1.os, h1.tape, h1.output, h1.drawn, h1.size, h1.ll, h1.mem, fun b o a => ?_, ?_⟩
 ·simp only [aI, aF] at a
  rcases a with a | a | a
  ·exact h1.box b o (by simp [a])
  ·cases a
   refine ⟨heap_alloc_new W.drew _, ?_, .inl j.size⟩
   cases hm : μ W.heap.size with
   | none => rfl
   | some x => have := j.Dj hm; omega
  ·exact h1.box b o (by simp [a])
 ·simp only [bi, aQ, dN, de] at s ⊢
  refine (eF dK).2 (cu.2 ⟨fun hm => ?_, s⟩)
  rw [← bi] at hm
  obtain ⟨⟨b, o⟩, a, D⟩ := aR.1 hm
  have := j.Ei a
  simp at D
  omega
end
theorem xj {p : Prop} [Decidable p] {u : Unit} (h : me (decide p) = some u) : p := dZ (F3 h)
section
variable {P : Program} {E : Nat → Value} {W : World} {d : Option Nat} {ty : TypeId} {pos : String} {af : Array Edge} {g : Option (Nat × Bool)}
 {F : Nat → Prop} {w : World} {μ : jF} {L : List (Nat × Obj)} {α : Type} {e : TypeId} {enc : α → List Value} {k : Nat} {v : Value} {l : List α} {R : List (Nat × Obj)} {dd : Bool}
def Ao {α : Type} (l : List α) (i j : Nat) : List α := l.take i ++ l.drop j ++ l.drop (l.length - (j - i))
theorem Ch {α : Type} (l : List α) {i j : Nat} (a : i ≤ j) (c : j ≤ l.length) : (Ao l i j).length = l.length := by
 simp [Ao]; omega
theorem H4 (hk : ∀ x, (enc x).length = k) (l : List α) (i : Nat) (hi : i ≤ l.length) : (l.map enc).flatten.drop (i * k) = ((l.drop i).map enc).flatten := by
 have h1 : (l.map enc).flatten = ((l.take i).map enc).flatten ++ ((l.drop i).map enc).flatten := by rw [← eG, ← bi, dV]
 have a : ((l.take i).map enc).flatten.length = i * k := by rw [nY hk, bx, bO hi]
 rw [h1, ← a, List.drop_left]
theorem KA {K : Value → World → Prop} (X : List (Nat × Obj)) {Y : List (Nat × Obj)} {t : TypeId} {x y : Operand} {i j : Nat} {v1 u : Value} {ti : TypeInfo} (I : ST dd F w W μ (X ++ (R ++ Y))) (h : jy e enc k v l R) (h1 : jy e enc k v1 (l.take i) R) (hk : ∀ x, (enc x).length = k) (aE : 0 < k) (ad : ∀ x, ∀ u ∈ enc x, u.oneCell' = true) (ht : P.underlying t = some (.slice e)) (hi : P.info? e = some ti) (Z : ti.size = k) (J : i ≤ j) (hj : j ≤ l.length) (hu : B2 k v j u) (hx : ji E x = v1) (hy : ji E y = u) (hK : ∀ W' v' R', ST dd F w W' μ (X ++ (R' ++ Y)) → jy e enc k v (Ao l i j) R' → jy e enc k v' (l.take i ++ l.drop j) R' → K v' W') : mg P E ⟨d, .call ⟨.builtin .append, #[x, y], #[t, t]⟩, ty, pos, af, g⟩ W K := by
 have z : ∀ (V : Value) (W' : World), (Builtin.append_ #[t, t] ty #[v1, u]).run P W = .ok V W' → (execOp (ji E) ⟨d, .call ⟨.builtin .append, #[x, y], #[t, t]⟩, ty, pos, af, g⟩).run P W = .ok (.value V) W' := by
  intro V W' hV
  show (do let d ← resolve (ji E) ⟨.builtin .append, #[x, y], #[t, t]⟩ ty; invoke d.target d.args : Sem Next).run P W = _
  simp [resolve, invoke, builtin, hx, hy, hV]
 obtain ⟨A, n, c, A', c', e1, rfl, h7, h8⟩ := hu
 rcases h with ⟨rfl, rfl, rfl⟩ | ⟨D, cap, m, rfl, rfl, q1, q2, q3, q4⟩
 ·cases e1
  have b2 : v1 = .slice none 0 0 := by
   rcases h1 with ⟨h, _, _⟩ | ⟨_, _, _, _, h, _⟩
   ·exact h
   ·cases h
  subst b2
  refine .inl ⟨_, W, z (.slice none 0 0) W ?_, hK W _ [] I (by simpa [Ao] using jy.nil e enc k) (by simpa using jy.nil e enc k)⟩
  cases A' <;> simp [Builtin.append_, ar ht, sizeOf, typeInfo, hi, Builtin.lenOf, Builtin.firstCells, loadCells, loadCellsFrom]
 ·cases e1
  obtain ⟨g1, a, s, rfl, eR, a1, a2, a3, a4⟩ : ∃ g1 a s, v1 = .slice (some ⟨g1, 0, none⟩) (l.take i).length a ∧ [(D, Obj.cells m e (0, 0))] = [(g1, .cells s e (0, 0))] ∧ (l.take i).length ≤ a ∧ a ≤ maxLen ∧ s.size = a * k ∧ s.toList.take ((l.take i).length * k) = ((l.take i).map enc).flatten := by
   rcases h1 with ⟨_, _, h⟩ | h
   ·cases h
   ·exact h
  cases eR
  have a6 : a = c := ep aE (a3.symm.trans q3)
  subst a6
  have p : (l.take i).length = i := by rw [bx]; omega
  rw [p] at a1 a4 z
  have hb := (I.box D (.cells m e (0, 0)) (by simp)).1
  by_cases b0 : j < l.length
  ·obtain ⟨b, o, e2, rfl⟩ := h8 b0
   cases e2
   have M : (((l.drop j).map enc).flatten).length = (l.length - j) * k := by rw [nY hk, bY]
   have e0 : m.toList.length = a * k := by simpa using q3
   have b7 : l.length * k ≤ a * k := bd _ q1
   have b6 : j * k ≤ l.length * k := bd _ hj
   have b5 : i * k ≤ j * k := bd _ J
   have b4 : (l.length - j) * k = l.length * k - j * k := Nat.sub_mul _ _ _
   have ao : (m.toList.take (l.length * k)).drop (j * k) = ((l.drop j).map enc).flatten := by rw [q4, H4 hk l j hj]
   have T : ∀ q u, (((l.drop j).map enc).flatten)[q]? = some u → W.cell? (Addr.add ⟨D, 0 + j * k, none⟩ q) = some u := by
    intro q u hq
    rw [bV, ee W D (0 + j * k + q) m e (0, 0) hb, bW]
    rw [← ao, cq] at hq
    have ab : j * k + q < l.length * k := by
     have := (aH.1 hq).1
     rw [bx] at this
     omega
    rw [cw ab] at hq
    simpa using hq
   have U : ∀ u ∈ ((l.drop j).map enc).flatten, u.oneCell' = true := by
    intro u hu
    obtain ⟨ys, b3, b1⟩ := fQ.1 hu
    obtain ⟨x, _, rfl⟩ := aR.1 b3
    exact ad x u b1
   have hr := run_append_room (P := P) W t ty e ti ht hi D i a m hb ⟨D, 0 + j * k, none⟩ (l.length - j) c' _ (by rw [Z, M]) T U (by omega) (by rw [Z, M]; simp only [bL] at e0; omega)
   rw [Z, M] at hr
   have hS := ST.store (A := X) (b := D) (cs := m) (t := e) (B := Y) I (m.toList.take (i * k) ++ ((l.drop j).map enc).flatten ++ m.toList.drop (i * k + (l.length - j) * k)).toArray
   have a8 : m.toList.take (i * k) = ((l.take i).map enc).flatten := a4
   have L : (m.toList.take (i * k) ++ ((l.drop j).map enc).flatten).length = (i + (l.length - j)) * k := by rw [ah, bx, M, e0, bO (by omega), bo]
   have G : (m.toList.take (i * k) ++ ((l.drop j).map enc).flatten ++ m.toList.drop (i * k + (l.length - j) * k)).length = a * k := by
    rw [ah, L, bY, e0, bo]; omega
   refine .inl ⟨_, _, z _ _ hr, hK _ _ [(D, .cells _ e (0, 0))] hS (.inr ⟨D, a, _, by rw [Ch l J hj], rfl, by rw [Ch l J hj]; exact q1, q2, by rw [bH, G], ?_⟩) (.inr ⟨D, a, _, by rw [ah, p, bY], rfl, by rw [ah, p, bY]; omega, q2, by rw [bH, G], ?_⟩)⟩
   ·rw [Ch l J hj]
    show List.take (l.length * k) (m.toList.take (i * k) ++ ((l.drop j).map enc).flatten ++ m.toList.drop (i * k + (l.length - j) * k)) = _
    have O : l.length * k = (i + (l.length - j)) * k + (j - i) * k := by rw [← bo]; congr 1; omega
    have hm : (l.length - (j - i)) * k = i * k + (l.length - j) * k := by rw [← bo]; congr 1; omega
    have Q : (m.toList.drop (i * k + (l.length - j) * k)).take ((j - i) * k) = ((l.drop (l.length - (j - i))).map enc).flatten := by
     rw [← hm, ← H4 hk l _ (by omega), ← q4, fl]
     congr 1
     rw [← Nat.sub_mul]; congr 1; omega
    rw [O, dt, L, Nat.add_sub_cancel_left, bN (by rw [L]; omega), Q, a8]
    simp [Ao, aC]
   ·rw [ah, p, bY]
    show List.take ((i + (l.length - j)) * k) (m.toList.take (i * k) ++ ((l.drop j).map enc).flatten ++ m.toList.drop (i * k + (l.length - j) * k)) = _
    rw [← L, fw, a8]
    simp
  ·have av : j = l.length := by omega
   subst av
   have a7 : Ao l i l.length = l := by
    unfold Ao
    rw [show l.length - (l.length - i) = i by omega, ap, bp, dV]
   refine .inl ⟨.slice (some ⟨D, 0, none⟩) i a, W, z _ W ?_, hK W _ _ I (by rw [a7]; exact .inr ⟨D, a, m, rfl, rfl, q1, q2, q3, q4⟩) (.inr ⟨D, a, m, by simp [p], rfl, by simpa [p] using a1, q2, q3, by simpa [p] using a4⟩)⟩
   cases A' <;> simp [Builtin.append_, ar ht, sizeOf, typeInfo, hi, Builtin.lenOf, Builtin.firstCells, loadCells, loadCellsFrom, storeCells, a1]
theorem Oq {i : List α} {z : Value} {t : TypeId} {x m ih : Operand} {Y y : IntKind} {a b : Int} (G : P.underlying t = some (.slice e)) (he : ∀ w, (sizeOf e).run P w = .ok k w) (q : 0 < k) (O : jy e enc k v l R) (h1 : jy e enc k z i R) (I : ji E x = z) (F : ji E m = .int Y a) (D : ji E ih = .int y b) (ha : 0 ≤ a) (Q : a ≤ b) (T : b = (l.length : Int)) (o : a = (i.length : Int)) : ∃ u, B2 k v a.toNat u ∧ ∀ W, kA P E ⟨d, .slice t x (some m) (some ih) none, ty, pos, af, g⟩ W u W := by
 subst o; subst T
 have hle : i.length ≤ l.length := by omega
 rcases O with ⟨rfl, rfl, rfl⟩ | ⟨n, cap, J, rfl, rfl, Z, q2, q3, q4⟩
 ·have U : z = .slice none 0 0 ∧ i = [] := by
   rcases h1 with ⟨h, M, _⟩ | ⟨_, _, _, _, h, _⟩
   ·exact ⟨h, M⟩
   ·cases h
  obtain ⟨rfl, rfl⟩ := U
  refine ⟨.slice none 0 0, ⟨none, 0, 0, none, 0, rfl, rfl, aM _, fun h => absurd h (by simp)⟩, fun W => ?_⟩
  show (do pure (.value (← Instr.sliceAt t (ji E x) (some (ji E m)) (some (ji E ih)) none)) : Sem Next).run P W = _
  rw [I, F, D]
  simp [Instr.sliceAt, Instr.slice, Instr.sliceBounds, Instr.sliceBound, asIntOf, ar G, he W]
 ·rcases h1 with ⟨_, _, h⟩ | ⟨g1, c, A, rfl, L, a1, a2, a3, a4⟩
  ·cases h
  cases L
  have j : c = cap := ep q (a3.symm.trans q3)
  subst j
  refine ⟨.slice (some (if c = i.length then ⟨n, 0, none⟩ else (Addr.add ⟨n, 0, none⟩ (i.length * k)))) (l.length - i.length) (c - i.length), ⟨_, _, _, _, _, rfl, rfl, by simpa using hle, fun s => ⟨n, 0, rfl, ?_⟩⟩, fun W => ?_⟩
  ·simp only [dj] at s ⊢
   rw [ai (by omega)]; simp [bV]
  ·show (do pure (.value (← Instr.sliceAt t (ji E x) (some (ji E m)) (some (ji E ih)) none)) : Sem Next).run P W = _
   rw [I, F, D]
   have p : (i.length : Int) ≤ (l.length : Int) ∧ (l.length : Int) ≤ (c : Int) := ⟨by omega, by omega⟩
   simp [Instr.sliceAt, Instr.slice, Instr.sliceBounds, Instr.sliceBound, asIntOf, ar G, he W, p, hle, Z]
   split <;> rfl
theorem O7 {t : TypeId} {x c ih h : Operand} {O o p : IntKind} {a b m : Int} (z : P.underlying t = some (.slice e)) (he : ∀ w, (sizeOf e).run P w = .ok k w) (L : jy e enc k v l R) (A : ji E x = v) (y : ji E c = .int O a) (s : ji E ih = .int o b) (hm : ji E h = .int p m) (Q : 0 ≤ a) (M : a ≤ b) (T : b ≤ m) (j : m ≤ (l.length : Int)) : ∃ u, True ∧ ∀ W, kA P E ⟨d, .slice t x (some c) (some ih) (some h), ty, pos, af, g⟩ W u W := by
 obtain ⟨a, rfl⟩ : ∃ n : Nat, a = (n : Int) := ⟨a.toNat, by omega⟩
 obtain ⟨b, rfl⟩ : ∃ n : Nat, b = (n : Int) := ⟨b.toNat, by omega⟩
 obtain ⟨m, rfl⟩ : ∃ n : Nat, m = (n : Int) := ⟨m.toNat, by omega⟩
 have F : a ≤ b := by omega
 have G : b ≤ m := by omega
 rcases L with ⟨rfl, rfl, rfl⟩ | ⟨q, cap, D, rfl, rfl, U, Y, Z, q4⟩
 ·have i : m = 0 := by simp at j; omega
  subst i
  have I : b = 0 := by omega
  subst I
  have J : a = 0 := by omega
  subst J
  refine ⟨.slice none 0 0, trivial, fun W => ?_⟩
  show (do pure (.value (← Instr.sliceAt t (ji E x) (some (ji E c)) (some (ji E ih)) (some (ji E h)))) : Sem Next).run P W = _
  rw [A, y, s, hm]
  simp [Instr.sliceAt, Instr.slice, Instr.sliceBounds, Instr.sliceBound, asIntOf, ar z, he W]
 ·have i : m ≤ cap := by omega
  refine ⟨.slice (if m = a then some ⟨q, 0, none⟩ else some (Addr.add ⟨q, 0, none⟩ (a * k))) (b - a) (m - a), trivial, fun W => ?_⟩
  show (do pure (.value (← Instr.sliceAt t (ji E x) (some (ji E c)) (some (ji E ih)) (some (ji E h)))) : Sem Next).run P W = _
  rw [A, y, s, hm]
  simp [Instr.sliceAt, Instr.slice, Instr.sliceBounds, Instr.sliceBound, asIntOf, ar z, he W, F, G, i]
theorem jy.O9 {i c : List α} {s : Value} {R2 : List (Nat × Obj)} (m : 0 < k) (hk : ∀ x, (enc x).length = k) (F : jy e enc k v l R) (h1 : jy e enc k s c R) (p : jy e enc k v i R2) (q : c.length ≤ i.length) : jy e enc k s (i.take c.length) R2 := by
 rcases F with ⟨rfl, rfl, rfl⟩ | ⟨D, cap, z, rfl, rfl, L, M, G, O⟩
 ·rcases h1 with ⟨rfl, rfl, _⟩ | ⟨_, _, _, _, h, _⟩
  ·rcases p with ⟨_, rfl, rfl⟩ | ⟨_, _, _, h, _⟩
   ·exact jy.nil e enc k
   ·cases h
  ·cases h
 ·rcases h1 with ⟨_, _, h⟩ | ⟨g1, a, o, rfl, A, t, a2, a3, a4⟩
  ·cases h
  cases A
  have g : a = cap := ep m (a3.symm.trans G)
  subst g
  rcases p with ⟨h, _⟩ | ⟨g2, n, d, h, rfl, I, u, w, y⟩
  ·cases h
  ·simp only [Value.slice.injEq, ft, Addr.mk.injEq] at h
   obtain ⟨⟨rfl, _, _⟩, J, rfl⟩ := h
   have j : (i.take c.length).length = c.length := by rw [bx]; omega
   refine .inr ⟨D, a, d, by rw [j], rfl, by rw [j]; exact t, u, w, ?_⟩
   rw [j, BN hk i c.length q, ← y, eo, bO (bd _ q)]
end
section
variable {x y : Nat × Obj} {A B C L R S : List (Nat × Obj)}
theorem Pz : (x :: A).Perm (x :: A) := .refl _
theorem Pb (h : A.Perm (x :: B)) : (y :: A).Perm (x :: y :: B) := (h.cons y).trans (.swap ..)
theorem Pr (h : A.Perm (x :: B)) : (S ++ A).Perm (x :: (S ++ B)) := (h.append_left S).trans dK
theorem Qz : (R ++ A).Perm (R ++ A) := .refl _
theorem Qb (h : A.Perm (R ++ B)) : (y :: A).Perm (R ++ (y :: B)) := (h.cons y).trans List.perm_middle.symm
theorem Qr (h : A.Perm (R ++ B)) : (S ++ A).Perm (R ++ (S ++ B)) := (h.append_left S).trans (gu S R B)
def ly (L L' : List (Nat × Obj)) : Prop := ∃ M, L.Perm (L' ++ M)
theorem Sn : ly L [] := ⟨L, .refl _⟩
theorem St : ly L L := ⟨[], by rw [bp]⟩
theorem Sb (h : L.Perm (x :: A)) (k : ly A B) : ly L (x :: B) := let ⟨M, m⟩ := k; ⟨M, h.trans (m.cons x)⟩
theorem Sr (h : L.Perm (R ++ A)) (k : ly A B) : ly L (R ++ B) := let ⟨M, m⟩ := k; ⟨M, by rw [aC]; exact h.trans (m.append_left R)⟩
theorem Kb (k : ly A B) : ly (x :: A) (x :: B) := Sb Pz k
theorem Kr (k : ly A B) : ly (R ++ A) (R ++ B) := Sr Qz k
theorem Db (k : ly A B) : ly (x :: A) B := let ⟨M, m⟩ := k; ⟨x :: M, (m.cons x).trans List.perm_middle.symm⟩
theorem Dr (k : ly A B) : ly (R ++ A) B := let ⟨M, m⟩ := k; ⟨R ++ M, (m.append_left R).trans (gu R B M)⟩
theorem ly.mem (s : ly L A) : ∀ p, p ∈ A → p ∈ L := fun p hp => let ⟨M, m⟩ := s; m.mem_iff.2 (aW _ hp)
theorem ST.je {dd : Bool} {F : Nat → Prop} {w W : World} {μ : jF} (h : ST dd F w W μ L) (s : ly L A) : ST dd F w W μ A := let ⟨M, m⟩ := s; (h.perm m).sublist (List.sublist_append_left A M)
theorem rM.je {μ : jF} {W : World} (h : rM μ L W) (s : ly L A) : rM μ A W := h.sub (jC.refl _) s.mem
theorem rM.oW {μ μ' : jF} {W : World} (h : rM μ L W) (a : jC μ' μ) (s : ly L A) : rM μ' A W := h.sub a s.mem
theorem Cn : L.Perm ([] ++ L) := .refl _
theorem Cb (h : L.Perm (x :: A)) (k : A.Perm (B ++ C)) : L.Perm ((x :: B) ++ C) := h.trans (k.cons x)
theorem Cr (h : L.Perm (R ++ A)) (k : A.Perm (B ++ C)) : L.Perm ((R ++ B) ++ C) := by rw [aC]; exact h.trans (k.append_left R)
theorem C0 (k : L.Perm (B ++ C)) : L.Perm (([] ++ B) ++ C) := k
theorem Tn : ([] ++ A).Perm A := .refl _
theorem Tb (h : (A ++ B).Perm C) : ((x :: A) ++ B).Perm (x :: C) := h.cons x
theorem Tr (h : (A ++ B).Perm C) : ((R ++ A) ++ B).Perm (R ++ C) := by rw [aC]; exact h.append_left R
theorem Nb (h : L.Perm (x :: A)) (k : A.Perm B) : L.Perm (x :: B) := h.trans (k.cons x)
theorem Nr (h : L.Perm (R ++ A)) (k : A.Perm B) : L.Perm (R ++ B) := h.trans (k.append_left R)
theorem Nz : L.Perm L := .refl _
theorem Us {R' R1 : List (Nat × Obj)} (hp : R.Perm (R' ++ R1)) : (R ++ A).Perm (R' ++ (R1 ++ A)) := by rw [← aC]; exact hp.append_right A
theorem Mh : x ∈ x :: A := .head _
theorem Mt (h : x ∈ A) : x ∈ y :: A := .tail _ h
theorem Ma (h : x ∈ A) : x ∈ R ++ A := bU _ h
theorem Ml (h : x ∈ R) : x ∈ R ++ A := aW _ h
end
section
variable {dd : Bool} {F : Nat → Prop} {w W : World} {μ : jF} {L L0 L1 Y R : List (Nat × Obj)}
theorem ST.J3 (h : ST dd jT w W μ L) (s : ly L L1) : qF dd [] L1 w W := let ⟨_, m⟩ := s; (h.perm m).Tq
theorem ST.kF (h : ST dd (keys L0) w W μ L) (s : ly L L1) : qF dd L0 L1 w W := let ⟨_, m⟩ := s; (h.perm m).Tw
theorem ST.yk : ∀ {R : List (Nat × Obj)} {μ : jF}, ST dd F w W μ (R ++ Y) → ∃ μ', ST dd F w W μ' Y ∧ jC μ μ' ∧ Lo F w μ μ' ∧ ∀ b o, (b, o) ∈ R → μ' b = some o
 | [], μ, h => ⟨μ, h, jC.refl _, Lo.refl, fun _ _ h => by cases h⟩
 | (g, o) :: R, μ, h => by
  have c : ST dd F w W μ ([] ++ (g, o) :: (R ++ Y)) := h
  obtain ⟨μ', d, a2, a3, a4⟩ := ST.yk (R := R) (ST.HP (A := []) c)
  refine ⟨μ', d, (ST.Hy (A := []) c).trans a2, (ST.ON (A := []) c).trans a3, fun b i a => ?_⟩
  rcases aB.1 a with a | a
  ·cases a; exact a2 _ _ (aj rfl)
  ·exact a4 b i a
theorem ST.xP {α : Type} {e' : TypeId} {enc : α → List Value} {k : Nat} {v : Value} {l : List α} (a : ST dd F w W μ (R ++ Y)) (h : jy e' enc k v l R) (hk : ∀ x, (enc x).length = k) : ∃ μ', ST dd F w W μ' Y ∧ jC μ μ' ∧ Lo F w μ μ' ∧ Sl (Pl enc) k μ' v l := by
 obtain ⟨μ', c, a2, a3, a4⟩ := ST.yk a
 exact ⟨μ', c, a2, a3, h.sl hk a4⟩
section
variable {P : Program} {n : Nat} {Q : mP} {E : Nat → Value} {V : World} {id : Nat} {l : List Oper} {A B C : List (Nat × Obj)}
theorem ko (a : rM μ A V.drew) (hm : P.follows .mixedOrders = true) (h : PX P n l.toArray Q (fun _ W => rM μ A W) l.length (Array.replicate l.length false) E V.drew) : CW P n (.region id l.toArray true) Q E V := Kp _ hm h
theorem ya (i : Nat) (a : rM μ A V.drew) (h1 : rM μ B V.drew) (hm : P.follows .mixedOrders = true) (h : PX P n l.toArray Q (fun l W => rM μ A W ∧ (l.getD i true = false → rM μ B W)) l.length (Array.replicate l.length false) E V.drew) : CW P n (.region id l.toArray true) Q E V := Kp _ hm h
end
structure na (μ : jF) (L0 : List (Nat × Obj)) (w : World) : Prop where
 H : Cs L0 w
 N : (L0.map (·.1)).Nodup
 S : jC μ (qH w L0)
theorem ST.tG (h : na μ L0 w) : ST dd (keys L0) w w μ L0 := (ST.Sv h.H h.N).kI h.S
end
section
variable {dd : Bool} {P : Program} {E : Nat → Value} {W : World} {d : Option Nat} {ty : TypeId} {pos : String} {af : Array Edge} {g : Option (Nat × Bool)} {F : Nat → Prop} {w : World} {μ : jF} {L : List (Nat × Obj)}
theorem jD {K : Value → World → Prop} {B : List (Nat × Obj)} {t : TypeId} {x y : Operand} (v : Value) {b off : Nat} {cs : Array Value} {T : TypeId} (cs' : Array Value) (a : ST dd F w W μ ((b, .cells cs T (0, 0)) :: B)) (k : ji E x = .pointer (some ⟨b, off, none⟩)) (m : ji E y = v) (c : ∀ w, (sizeOf t).run P w = .ok v.cells.size w) (h1 : ∀ u ∈ v.cells.toList, u.oneCell' = true) (j : off + v.cells.size ≤ cs.size) (i : (cs.toList.take off ++ v.cells.toList ++ cs.toList.drop (off + v.cells.size)).toArray = cs') (h : ∀ W', ST dd F w W' μ ((b, .cells cs' T (0, 0)) :: B) → K undef W') : mg P E ⟨d, .store t x y, ty, pos, af, g⟩ W K := AT [] v cs' a k m c h1 j i h
end
section
variable {dd : Bool}
variable {P : Program} {n : Nat} {Q : mP} {E : Nat → Value} {W : World} {ops : Array Oper} {rest : List Oper}
 {d : Option Nat} {ty : TypeId} {pos : String} {af : Array Edge} {g : Option (Nat × Bool)}
 {F : Nat → Prop} {w : World} {μ : jF} {L : List (Nat × Obj)}
theorem lC {K : Value → World → Prop} {α : Type} {e t : TypeId} {enc : α → List Value} {k a : Nat} {z v vs : Value} {l m r : List α} {R Y : List (Nat × Obj)} {x y : Operand} {i : TypeInfo} (c : ST dd F w W μ (R ++ Y)) (hk : ∀ x, (enc x).length = k) (n : 0 < k) (h1 : ∀ x, ∀ u ∈ enc x, u.oneCell' = true) (G : P.underlying t = some (.slice e)) (hi : P.info? e = some i) (L : i.zero = some z) (p : z.cells.size = k) (o : i.size = k) (j : i.bytes = a) (I : ji E x = v) (J : ji E y = vs) (s : jy e enc k v l R) (D : Sl (Pl enc) k (hp W) vs m) (A : lj a l m = some r) (h : ∀ W' q R', ST dd F w W' μ (R' ++ Y) → jy e enc k q r R' → K q W') : mg P E ⟨d, .call ⟨.builtin .append, #[x, y], #[t, t]⟩, ty, pos, af, g⟩ W K :=
 JG [] c hk n h1 G hi L p o j I J s D A h
end
section
variable {dd : Bool}
variable {P : Program} {E : Nat → Value} {W : World} {d : Option Nat} {ty : TypeId} {pos : String} {af : Array Edge} {g : Option (Nat × Bool)}
 {F : Nat → Prop} {w : World} {μ : jF} {L : List (Nat × Obj)}
theorem MO {K : Value → World → Prop} {α : Type} {e : TypeId} {enc : α → List Value} {k : Nat} {l : List α} {f : FuncId} {fv : Operand} {ax : Array Operand} {ats : Array TypeId} {caps : Array Value} {args : List Value} (Y : List (Nat × Obj)) (a : ST dd F w W μ Y) (j : ji E fv = .func (.func f) #[] caps) (he : ∀ args w, (callFunc f args).run P w = .ok (.enter f args) w) (c : ax.map (ji E) ++ caps = args.toArray) (i : kw dd P f args W e enc k l) (h : ∀ W' v μ' R, ST dd F w W' μ' (R ++ Y) → jC μ μ' → Lo F w μ μ' → jy e enc k v l R → K v W') : mg P E ⟨d, .call ⟨.value fv, ax, ats⟩, ty, pos, af, g⟩ W K :=
 M0 [] Y a j he c i h
end
section
variable {dd : Bool}
variable {P : Program} {E : Nat → Value} {W : World} {d : Option Nat} {ty : TypeId} {pos : String} {af : Array Edge} {g : Option (Nat × Bool)}
 {F : Nat → Prop} {w : World} {μ : jF} {L : List (Nat × Obj)} {α : Type} {e' : TypeId} {enc : α → List Value} {k : Nat} {v : Value} {l : List α} {R : List (Nat × Obj)}
theorem wS {K : Value → World → Prop} {Y : List (Nat × Obj)} {t : TypeId} {x y : Operand} {p u : Value} {i : Nat} {x0 x1 : α} (a : ST dd F w W μ (R ++ Y)) (h : jy e' enc k v l R) (hk : ∀ x, (enc x).length = k) (h1 : ∀ x, ∀ u ∈ enc x, u.oneCell' = true) (n : ji E x = p) (o : ji E y = u) (hu : u.cells = (enc x1).toArray) (hp : DH R k p i) (m : l[i]? = some x0) (j : ∀ w, (sizeOf t).run P w = .ok k w) (c : ∀ W' R', ST dd F w W' μ (R' ++ Y) → jy e' enc k v (l.set i x1) R' → K undef W') : mg P E ⟨d, .store t x y, ty, pos, af, g⟩ W K :=
 M4 [] a h hk h1 n o hu hp m j c
end
section
variable {dd : Bool}
variable {P : Program} {W : World} {κ : Type} {kt : TypeId} {kenc : κ → Value} {beq : κ → κ → Bool}
variable {β : Type} {vf : β → Value} {E : Nat → Value} {d : Option Nat} {ty : TypeId} {pos : String} {af : Array Edge} {g : Option (Nat × Bool)} {F : Nat → Prop} {w : World} {μ : jF} {L : List (Nat × Obj)}
theorem FL {i : Value → World → Prop} {Y R : List (Nat × Obj)} {t e : TypeId} {m x y : Operand} {c : Value} {l : List (κ × β)} {k : κ} {v : β} (K : nP P kt kenc beq) (n : P.underlying t = some (.map kt e)) (a : ST dd F w W μ (R ++ Y)) (h : kE kenc vf c l R) (hm : ji E m = c) (o : ji E x = kenc k) (p : ji E y = vf v) (j : ∀ W' R', ST dd F w W' μ (R' ++ Y) → kE kenc vf c (mC beq l k v) R' → i undef W') : mg P E ⟨d, .mapUpdate t m x y, ty, pos, af, g⟩ W i :=
 zG [] K n a h hm o p j
end
section
variable {dd : Bool}
variable {P : Program} {E : Nat → Value} {W : World} {d : Option Nat} {ty : TypeId} {pos : String} {af : Array Edge} {g : Option (Nat × Bool)}
 {F : Nat → Prop} {w : World} {μ : jF} {L : List (Nat × Obj)} {α : Type} {e' : TypeId} {enc : α → List Value} {k : Nat} {v : Value} {l : List α} {R : List (Nat × Obj)}
theorem vX {K : Value → World → Prop} (z : α) {Y : List (Nat × Obj)} {t e : TypeId} {x : Operand} {u c : Value} {i : Nat} (a : ST dd F w W μ (R ++ Y)) (h : jy e' enc k v l R) (hk : ∀ x, (enc x).length = k) (h1 : ∀ x, ∀ u ∈ enc x, u.oneCell' = true) (n : P.underlying t = some (.slice e)) (p : ∀ w, (zeroValue e).run P w = .ok c w) (hu : B2 k v i u) (m : c.cells = (enc z).toArray) (o : ji E x = u) (j : ∀ W' R', ST dd F w W' μ (R' ++ Y) → jy e' enc k v (mM l i z) R' → K (.tuple #[]) W') : mg P E ⟨d, .call ⟨.builtin .clear, #[x], #[t]⟩, ty, pos, af, g⟩ W K :=
 Lw z [] a h hk h1 n p hu m o j
end
section
variable {dd : Bool}
variable {κ γ : Type} {Q : Value → γ → List (Nat × Obj) → Prop} {beq : κ → κ → Bool} {kenc : κ → Value}
variable {P : Program} {W : World} {kt : TypeId} {E : Nat → Value} {d : Option Nat} {ty : TypeId} {pos : String} {af : Array Edge} {g : Option (Nat × Bool)} {F : Nat → Prop} {w : World} {μ : jF} {L : List (Nat × Obj)}
variable {κ2 β : Type} {kenc2 : κ2 → Value} {vf : β → Value} {beq2 : κ2 → κ2 → Bool} {kt2 : TypeId}
theorem NK {i : Value → World → Prop} {Y R : List (Nat × Obj)} {t e : TypeId} {m x y : Operand} {n : Value} {c : List (κ × Value)} {l j : List (κ × List (κ2 × β))} {k : κ} {k2 : κ2} {v : β} (hk : ∀ {x y : κ}, beq x y = true → x = y) (K : nP P kt2 kenc2 beq2) (q : P.underlying t = some (.map kt2 e)) (a : ST dd F w W μ (R ++ Y)) (h : lJ kenc (kE kenc2 vf) n c l R) (hm : ji E m = qP beq c k (.map none)) (s : ji E x = kenc2 k2) (u : ji E y = vf v) (p : F7 beq beq2 l k k2 v = some j) (o : ∀ W' R', ST dd F w W' μ (R' ++ Y) → lJ kenc (kE kenc2 vf) n c j R' → i undef W') : mg P E ⟨d, .mapUpdate t m x y, ty, pos, af, g⟩ W i :=
 OX [] hk K q a h hm s u p o
end
section
variable {dd : Bool}
variable {κ γ : Type} {Q : Value → γ → List (Nat × Obj) → Prop} {beq : κ → κ → Bool} {kenc : κ → Value}
variable {P : Program} {W : World} {kt : TypeId} {E : Nat → Value} {d : Option Nat} {ty : TypeId} {pos : String} {af : Array Edge} {g : Option (Nat × Bool)} {F : Nat → Prop} {w : World} {μ : jF} {L : List (Nat × Obj)}
variable {κ2 β : Type} {kenc2 : κ2 → Value} {vf : β → Value} {beq2 : κ2 → κ2 → Bool} {kt2 : TypeId}
theorem O4 {i : Value → World → Prop} {Y R R2 : List (Nat × Obj)} {t e : TypeId} {m x y : Operand} {c : Value} {n : List (κ × Value)} {l j : List (κ × γ)} {k : κ} {u : Value} {z : γ} (K : nP P kt kenc beq) (s : P.underlying t = some (.map kt e)) (a : ST dd F w W μ (R ++ (R2 ++ Y))) (h : lJ kenc Q c n l R) (hm : ji E m = c) (v : ji E x = kenc k) (A : ji E y = u) (q : Q u z R2) (p : Gz beq l k z = some j) (o : ∀ W' R', ST dd F w W' μ (R' ++ Y) → lJ kenc Q c (mC beq n k u) j R' → i undef W') : mg P E ⟨d, .mapUpdate t m x y, ty, pos, af, g⟩ W i :=
 NT [] K s a h hm v A q p o
end
section
variable {dd : Bool}
variable {κ γ : Type} {Q : Value → γ → List (Nat × Obj) → Prop} {beq : κ → κ → Bool} {kenc : κ → Value}
variable {P : Program} {W : World} {kt : TypeId} {E : Nat → Value} {d : Option Nat} {ty : TypeId} {pos : String} {af : Array Edge} {g : Option (Nat × Bool)} {F : Nat → Prop} {w : World} {μ : jF} {L : List (Nat × Obj)}
theorem RJ {i : Value → World → Prop} {Y R R1 : List (Nat × Obj)} {t e : TypeId} {m x y : Operand} {c : Value} {j : List (κ × Value)} {l : List (κ × γ)} {k : κ} {u : Value} {z : γ} (K : nP P kt kenc beq) (p : P.underlying t = some (.map kt e)) (a : ST dd F w W μ (R ++ (R1 ++ Y))) (h : Ny beq kenc Q c j l k R) (hm : ji E m = c) (q : ji E x = kenc k) (s : ji E y = u) (o : Q u z R1) (n : ∀ W' R', ST dd F w W' μ (R' ++ Y) → lJ kenc Q c (mC beq j k u) (mC beq l k z) R' → i undef W') : mg P E ⟨d, .mapUpdate t m x y, ty, pos, af, g⟩ W i :=
 SE [] K p a h hm q s o n
end
section
variable {dd : Bool}
variable {κ γ : Type} {Q : Value → γ → List (Nat × Obj) → Prop} {beq : κ → κ → Bool} {kenc : κ → Value}
variable {P : Program} {W : World} {kt : TypeId} {E : Nat → Value} {d : Option Nat} {ty : TypeId} {pos : String} {af : Array Edge} {g : Option (Nat × Bool)} {F : Nat → Prop} {w : World} {μ : jF} {L : List (Nat × Obj)}
theorem M7 {j : Value → World → Prop} {Y R : List (Nat × Obj)} {t e : TypeId} {m x : Operand} {i z : Value} {x0 : γ} {s : List (κ × Value)} {l : List (κ × γ)} {k : κ} (hk : ∀ {x y : κ}, beq x y = true ↔ x = y) (K : nP P kt kenc beq) (o : P.underlying t = some (.map kt e)) (q : ∀ w, (zeroValue e).run P w = .ok z w) (c : Q z x0 []) (a : ST dd F w W μ (R ++ Y)) (h : lJ kenc Q i s l R) (hm : ji E m = i) (p : ji E x = kenc k) (n : ∀ W' v st R' R1, ST dd F w W' μ (R' ++ (R1 ++ Y)) → Q v ((kx beq l k).getD x0) R1 → Ja beq kenc Q i l k st R' → j (.tuple #[v, .int .i64 (st : Nat)]) W') : mg P E ⟨d, .mapEntry t m x, ty, pos, af, g⟩ W j :=
 Nl [] hk K o q c a h hm p n
end
section
variable {dd : Bool}
variable {κ γ : Type} {Q : Value → γ → List (Nat × Obj) → Prop} {beq : κ → κ → Bool} {kenc : κ → Value}
variable {P : Program} {W : World} {kt : TypeId} {E : Nat → Value} {d : Option Nat} {ty : TypeId} {pos : String} {af : Array Edge} {g : Option (Nat × Bool)} {F : Nat → Prop} {w : World} {μ : jF} {L : List (Nat × Obj)}
theorem KP {j : Value → World → Prop} {Y R R1 : List (Nat × Obj)} {t e : TypeId} {m s y : Operand} {i u : Value} {z : γ} {l : List (κ × γ)} {k : κ} {st : Nat} (hk : ∀ {x y : κ}, beq x y = true ↔ x = y) (K : nP P kt kenc beq) (a : ST dd F w W μ (R ++ (R1 ++ Y))) (h : Ja beq kenc Q i l k st R) (hm : ji E m = i) (p : ji E s = .int .i64 (st : Nat)) (q : ji E y = u) (o : Q u z R1) (n : ∀ W' c R', ST dd F w W' μ (R' ++ Y) → lJ kenc Q i c (mC beq l k z) R' → j undef W') : mg P E ⟨d, .entryStore t m s y, ty, pos, af, g⟩ W j :=
 KQ (e := e) [] hk K a h hm p q o n
end
section
variable {dd : Bool}
variable {α : Type} {e : TypeId} {enc : α → List Value} {k : Nat} {v : Value} {l : List α} {R : List (Nat × Obj)}
variable {P : Program} {W : World} {E : Nat → Value} {d : Option Nat} {ty : TypeId} {pos : String} {af : Array Edge} {g : Option (Nat × Bool)} {F : Nat → Prop} {w : World} {μ : jF} {L : List (Nat × Obj)}
theorem Lu {K : Value → World → Prop} {t : TypeId} {a : Nat} {z vs : Value} {m r : List α} {Y : List (Nat × Obj)} {x y : Operand} {i : TypeInfo} (c : ST dd F w W μ (R ++ Y)) (hk : ∀ x, (enc x).length = k) (n : 0 < k) (h1 : ∀ x, ∀ u ∈ enc x, u.oneCell' = true) (G : P.underlying t = some (.slice e)) (hi : P.info? e = some i) (L : i.zero = some z) (p : z.cells.size = k) (o : i.size = k) (j : i.bytes = a) (I : ji E x = v) (J : ji E y = vs) (s : pk e enc k v l R) (D : Sl (Pl enc) k (hp W) vs m) (A : lj a l m = some r) (h : ∀ W' q R', ST dd F w W' μ (R' ++ Y) → pk e enc k q r R' → K q W') : mg P E ⟨d, .call ⟨.builtin .append, #[x, y], #[t, t]⟩, ty, pos, af, g⟩ W K :=
 Ls [] c hk n h1 G hi L p o j I J s D A h
end
section
variable {P : Program} {n : Nat} {Q : mP} {E : Nat → Value} {W : World} {ops : Array Oper} {rest : List Oper}
variable {dd : Bool} {α : Type} {enc : α → List Value} {k : Nat} {μ : jF} {v : Value}
variable {d : Option Nat} {ty : TypeId} {pos : String} {af : Array Edge} {g : Option (Nat × Bool)} {F : Nat → Prop} {w : World} {L : List (Nat × Obj)}
theorem JC {K : Value → World → Prop} {α : Type} {e t q : TypeId} {enc : α → List Value} {k a : Nat} {u : Value} {n : Int} {z : α} {r : List α} {Y : List (Nat × Obj)} {x y : Operand} {i : TypeInfo} (c : ST dd F w W μ Y) (hk : ∀ x, (enc x).length = k) (m : 0 < k) (D : P.underlying t = some (.slice e)) (p : P.underlying q = some (.int .i64)) (hi : P.info? e = some i) (J : i.zero = some u) (o : i.size = k) (j : i.bytes = a) (A : u.cells = (enc z).toArray) (G : ji E x = .slice none 0 0) (I : ji E y = .int .i64 n) (v : Hs a z n = some r) (h : ∀ W' s R', ST dd F w W' μ (R' ++ Y) → jy e enc k s r R' → K s W') : mg P E ⟨d, .call ⟨.builtin .append, #[x, y], #[t, q]⟩, ty, pos, af, g⟩ W K :=
 Jv [] c hk m D p hi J o j A G I v h
end
section
variable {P : Program} {E : Nat → Value} {W : World} {d : Option Nat} {ty : TypeId} {pos : String} {af : Array Edge} {g : Option (Nat × Bool)}
 {F : Nat → Prop} {w : World} {μ : jF} {L : List (Nat × Obj)} {α : Type} {e : TypeId} {enc : α → List Value} {k : Nat} {v : Value} {l : List α} {R : List (Nat × Obj)} {dd : Bool}
theorem J1 {K : Value → World → Prop} {Y : List (Nat × Obj)} {t : TypeId} {x y : Operand} {i j : Nat} {v1 u : Value} {p : TypeInfo} (c : ST dd F w W μ (R ++ Y)) (h : jy e enc k v l R) (h1 : jy e enc k v1 (l.take i) R) (hk : ∀ x, (enc x).length = k) (n : 0 < k) (a : ∀ x, ∀ u ∈ enc x, u.oneCell' = true) (A : P.underlying t = some (.slice e)) (hi : P.info? e = some p) (o : p.size = k) (m : i ≤ j) (z : j ≤ l.length) (hu : B2 k v j u) (D : ji E x = v1) (G : ji E y = u) (s : ∀ W' q R', ST dd F w W' μ (R' ++ Y) → jy e enc k v (Ao l i j) R' → jy e enc k q (l.take i ++ l.drop j) R' → K q W') : mg P E ⟨d, .call ⟨.builtin .append, #[x, y], #[t, t]⟩, ty, pos, af, g⟩ W K :=
 KA [] c h h1 hk n a A hi o m z hu D G s
end
section
variable {P : Program} {n : Nat} {Q : mP} {E : Nat → Value} {W : World} {ops : Array Oper} {rest : List Oper}
variable {d j t : Nat} {want : Bool} {v : Value} {ins : Go.Op} {ty : TypeId} {pos : String} {af : Array Edge} {A : Value → Prop}
theorem V (c : kA P E ⟨some d, ins, ty, pos, af, none⟩ W v W) (h : LW P n ops Q rest (mu E d v) W) (a : d < n := by decide) : LW P n ops Q (⟨some d, ins, ty, pos, af, none⟩ :: rest) E W := HI (.inl rfl) rfl a c h
theorem VE (h : mg P E ⟨some d, ins, ty, pos, af, none⟩ W fun v W' => LW P n ops Q rest (mu E d v) W') (a : d < n := by decide) : LW P n ops Q (⟨some d, ins, ty, pos, af, none⟩ :: rest) E W := RN (.inl rfl) rfl a h
theorem VO (h : mg P E ⟨none, ins, ty, pos, af, none⟩ W fun _ W' => LW P n ops Q rest E W') : LW P n ops Q (⟨none, ins, ty, pos, af, none⟩ :: rest) E W := Ty (.inl rfl) rfl h
theorem VQ (c : ∃ p, A p ∧ ∀ W, kA P E ⟨some d, ins, ty, pos, af, none⟩ W p W) (h : ∀ p, A p → LW P n ops Q rest (mu E d p) W) (a : d < n := by decide) : LW P n ops Q (⟨some d, ins, ty, pos, af, none⟩ :: rest) E W := SR (.inl rfl) rfl a c h
theorem Vg (c : (ops[j]?).bind (·.dst) = some t) (a : E t = .bool want) (i : kA P E ⟨some d, ins, ty, pos, af, some (j, want)⟩ W v W) (h : LW P n ops Q rest (mu E d v) W) (k : t < n := by decide) (g : d < n := by decide) : LW P n ops Q (⟨some d, ins, ty, pos, af, some (j, want)⟩ :: rest) E W := HI (.inr ⟨j, want, t, rfl, c, k, a⟩) rfl g i h
theorem OR (c : (ops[j]?).bind (·.dst) = some t) (a : E t = .bool want) (h : mg P E ⟨some d, ins, ty, pos, af, some (j, want)⟩ W fun v W' => LW P n ops Q rest (mu E d v) W') (i : t < n := by decide) (g : d < n := by decide) : LW P n ops Q (⟨some d, ins, ty, pos, af, some (j, want)⟩ :: rest) E W := RN (.inr ⟨j, want, t, rfl, c, i, a⟩) rfl g h
theorem TS (c : (ops[j]?).bind (·.dst) = some t) (a : E t = .bool want) (i : ∃ p, A p ∧ ∀ W, kA P E ⟨some d, ins, ty, pos, af, some (j, want)⟩ W p W) (h : ∀ p, A p → LW P n ops Q rest (mu E d p) W) (k : t < n := by decide) (g : d < n := by decide) : LW P n ops Q (⟨some d, ins, ty, pos, af, some (j, want)⟩ :: rest) E W := SR (.inr ⟨j, want, t, rfl, c, k, a⟩) rfl g i h
theorem Vn (c : (ops[j]?).bind (·.dst) = some t) (a : E t = .bool (!want)) (h : LW P n ops Q rest (mu E d undef) W) (i : t < n := by decide) (g : d < n := by decide) : LW P n ops Q (⟨some d, ins, ty, pos, af, some (j, want)⟩ :: rest) E W := Tf rfl g rfl c i a h
theorem Vu (c : (ops[j]?).bind (·.dst) = some t) (a : E t = undef) (h : LW P n ops Q rest (mu E d undef) W) (i : t < n := by decide) (g : d < n := by decide) : LW P n ops Q (⟨some d, ins, ty, pos, af, some (j, want)⟩ :: rest) E W := Se rfl g rfl c i a h
end
section
variable {P : Program} {n : Nat} {Q : mP} {E : Nat → Value} {W : World} {ops : Array Oper} {S : Array Bool → World → Prop} {fuel : Nat} {listed : Array Bool} {μ : jF} {B : List (Nat × Obj)}
variable {d j t : Nat} {want : Bool} {v : Value} {ins : Go.Op} {ty : TypeId} {pos : String} {af : Array Edge} {A : Value → Prop}
theorem X (i : Nat) (hi : ops[i]? = some ⟨some d, ins, ty, pos, af, none⟩) (a : S (listed.setIfInBounds i true) W) (g : ∀ {W}, kA P E ⟨some d, ins, ty, pos, af, none⟩ W v W) (h : PX P n ops Q S fuel (listed.setIfInBounds i true) (mu E d v) W) (hk : DT ops listed i = true := by kernel_rfl) (hm : ∀ l w, S (l.setIfInBounds i true) w → S l w := by exact fun _ _ h => h) (c : d < n := by decide) : PX P n ops Q S (fuel + 1) listed E W := lT i hi hk (.inl rfl) rfl c hm a (fun _ _ _ _ => g) h
theorem XH (i : Nat) (hi : ops[i]? = some ⟨some d, ins, ty, pos, af, none⟩) (a : rM μ B W) (g : ∀ W, rM μ B W → kA P E ⟨some d, ins, ty, pos, af, none⟩ W v W) (h : PX P n ops Q (fun _ W => rM μ B W) fuel (listed.setIfInBounds i true) (mu E d v) W) (hk : DT ops listed i = true := by kernel_rfl) (c : d < n := by decide) : PX P n ops Q (fun _ W => rM μ B W) (fuel + 1) listed E W := lT i hi hk (.inl rfl) rfl c (fun _ _ h => h) a (fun _ W _ h => g W h) h
theorem XQ (i : Nat) (hi : ops[i]? = some ⟨some d, ins, ty, pos, af, none⟩) (a : S (listed.setIfInBounds i true) W) (g : ∃ p, A p ∧ ∀ W, kA P E ⟨some d, ins, ty, pos, af, none⟩ W p W) (h : ∀ p, A p → PX P n ops Q S fuel (listed.setIfInBounds i true) (mu E d p) W) (hk : DT ops listed i = true := by kernel_rfl) (hm : ∀ l w, S (l.setIfInBounds i true) w → S l w := by exact fun _ _ h => h) (c : d < n := by decide) : PX P n ops Q S (fuel + 1) listed E W := Ph i hi hk (.inl rfl) rfl c hm a g h
theorem XE (i : Nat) (hi : ops[i]? = some ⟨some d, ins, ty, pos, af, none⟩) (h : mg P E ⟨some d, ins, ty, pos, af, none⟩ W fun v W' => S (listed.setIfInBounds i true) W' ∧ PX P n ops Q S fuel (listed.setIfInBounds i true) (mu E d v) W') (c : Region.ready .any ops listed = [i] := by kernel_rfl) (a : d < n := by decide) : PX P n ops Q S (fuel + 1) listed E W := PB i hi c (.inl rfl) rfl a h
theorem XO (i : Nat) (hi : ops[i]? = some ⟨none, ins, ty, pos, af, none⟩) (h : mg P E ⟨none, ins, ty, pos, af, none⟩ W fun _ W' => S (listed.setIfInBounds i true) W' ∧ PX P n ops Q S fuel (listed.setIfInBounds i true) E W') (a : Region.ready .any ops listed = [i] := by kernel_rfl) : PX P n ops Q S (fuel + 1) listed E W := To i hi a (.inl rfl) rfl h
theorem Xg (i : Nat) (hi : ops[i]? = some ⟨some d, ins, ty, pos, af, some (j, want)⟩) (g : (ops[j]?).bind (·.dst) = some t) (a : E t = .bool want) (c : S (listed.setIfInBounds i true) W) (o : ∀ {W}, kA P E ⟨some d, ins, ty, pos, af, some (j, want)⟩ W v W) (h : PX P n ops Q S fuel (listed.setIfInBounds i true) (mu E d v) W) (hk : DT ops listed i = true := by kernel_rfl) (hm : ∀ l w, S (l.setIfInBounds i true) w → S l w := by exact fun _ _ h => h) (m : t < n := by decide) (k : d < n := by decide) : PX P n ops Q S (fuel + 1) listed E W := lT i hi hk (.inr ⟨j, want, t, rfl, g, m, a⟩) rfl k hm c (fun _ _ _ _ => o) h
theorem yo (i : Nat) (hi : ops[i]? = some ⟨some d, ins, ty, pos, af, some (j, want)⟩) (g : (ops[j]?).bind (·.dst) = some t) (a : E t = .bool want) (c : rM μ B W) (o : ∀ W, rM μ B W → kA P E ⟨some d, ins, ty, pos, af, some (j, want)⟩ W v W) (h : PX P n ops Q (fun _ W => rM μ B W) fuel (listed.setIfInBounds i true) (mu E d v) W) (hk : DT ops listed i = true := by kernel_rfl) (m : t < n := by decide) (k : d < n := by decide) : PX P n ops Q (fun _ W => rM μ B W) (fuel + 1) listed E W := lT i hi hk (.inr ⟨j, want, t, rfl, g, m, a⟩) rfl k (fun _ _ h => h) c (fun _ W _ h => o W h) h
theorem Is (i : Nat) (hi : ops[i]? = some ⟨some d, ins, ty, pos, af, some (j, want)⟩) (c : (ops[j]?).bind (·.dst) = some t) (a : E t = .bool want) (h : mg P E ⟨some d, ins, ty, pos, af, some (j, want)⟩ W fun v W' => S (listed.setIfInBounds i true) W' ∧ PX P n ops Q S fuel (listed.setIfInBounds i true) (mu E d v) W') (k : Region.ready .any ops listed = [i] := by kernel_rfl) (m : t < n := by decide) (g : d < n := by decide) : PX P n ops Q S (fuel + 1) listed E W := PB i hi k (.inr ⟨j, want, t, rfl, c, m, a⟩) rfl g h
theorem Xn (i : Nat) (hi : ops[i]? = some ⟨some d, ins, ty, pos, af, some (j, want)⟩) (g : (ops[j]?).bind (·.dst) = some t) (a : E t = .bool (!want)) (c : S (listed.setIfInBounds i true) W) (h : PX P n ops Q S fuel (listed.setIfInBounds i true) (mu E d undef) W) (hk : DT ops listed i = true := by kernel_rfl) (hm : ∀ l w, S (l.setIfInBounds i true) w → S l w := by exact fun _ _ h => h) (m : t < n := by decide) (k : d < n := by decide) : PX P n ops Q S (fuel + 1) listed E W := TD i hi hk rfl g m a rfl k hm c h
end
section
variable {α β γ : Type}
inductive pf (Q : α → β → Prop) : List α → List β → Prop
 | nil : pf Q [] []
 | cons {a : α} {b : β} {l : List α} {m : List β} : Q a b → pf Q l m → pf Q (a :: l) (b :: m)
namespace pf
variable {Q Q' : α → β → Prop}
theorem length {l : List α} {m : List β} (h : pf Q l m) : l.length = m.length := by
 induction h with
 | nil => rfl
 | cons _ _ ih => simp [ih]
theorem imp {l : List α} {m : List β} (h : pf Q l m) (c : ∀ a b, Q a b → Q' a b) : pf Q' l m := by
 induction h with
 | nil => exact .nil
 | cons h1 _ ih => exact .cons (c _ _ h1) ih
theorem get {l : List α} {m : List β} (h : pf Q l m) : ∀ {i : Nat} {b : β}, m[i]? = some b → ∃ a, l[i]? = some a ∧ Q a b := by
 induction h with
 | nil => intro i b c; simp at c
 | cons h1 _ ih =>
  intro i b c
  cases i with
  | zero => simp at c; subst c; exact ⟨_, rfl, h1⟩
  | succ i => simpa using ih (by simpa using c)
theorem append {l a : List α} {m c : List β} (h : pf Q l m) (d : pf Q a c) : pf Q (l ++ a) (m ++ c) := by
 induction h with
 | nil => exact d
 | cons h1 _ ih => exact .cons h1 ih
theorem set {l : List α} {m : List β} (h : pf Q l m) {a : α} {b : β} (d : Q a b) : ∀ i : Nat, pf Q (l.set i a) (m.set i b) := by
 induction h with
 | nil => intro i; exact .nil
 | cons h1 c ih =>
  intro i
  cases i with
  | zero => exact .cons d c
  | succ i => exact .cons h1 (ih i)
theorem take {l : List α} {m : List β} (h : pf Q l m) : ∀ i : Nat, pf Q (l.take i) (m.take i) := by
 induction h with
 | nil => intro i; simp; exact .nil
 | cons h1 _ ih =>
  intro i
  cases i with
  | zero => exact .nil
  | succ i => exact .cons h1 (ih i)
theorem drop {l : List α} {m : List β} (h : pf Q l m) : ∀ i : Nat, pf Q (l.drop i) (m.drop i) := by
 induction h with
 | nil => intro i; simp; exact .nil
 | cons h1 a ih =>
  intro i
  cases i with
  | zero => exact .cons h1 a
  | succ i => exact ih i
end pf
theorem Cl {P : Nat → β → α → Prop} : ∀ {m : List β} (o : Nat), (∀ (i : Nat) (b : β), m[i]? = some b → ∃ a, P (o + i) b a) → ∃ l : List α, l.length = m.length ∧ ∀ (i : Nat) (b : β), m[i]? = some b → ∃ a, l[i]? = some a ∧ P (o + i) b a
 | [], _, _ => ⟨[], rfl, fun i b h => by simp at h⟩
 | b :: m, o, h => by
  obtain ⟨a, d⟩ := h 0 b rfl
  obtain ⟨l, h1, j⟩ := Cl (m := m) (o + 1) (fun i b k => by
   obtain ⟨a, d⟩ := h (i + 1) b (by simpa using k)
   exact ⟨a, by rw [show o + 1 + i = o + (i + 1) by omega]; exact d⟩)
  refine ⟨a :: l, by simp [h1], fun i c g => ?_⟩
  cases i with
  | zero => simp at g; subst g; exact ⟨a, rfl, d⟩
  | succ i =>
   obtain ⟨x, n, hp⟩ := j i c (by simpa using g)
   exact ⟨x, by simpa using n, by rw [show o + (i + 1) = o + 1 + i by omega]; exact hp⟩
theorem pf.OZ {Q : α → β → Prop} : ∀ {l : List α} {m : List β}, l.length = m.length → (∀ (i : Nat) (a : α) (b : β), l[i]? = some a → m[i]? = some b → Q a b) → pf Q l m
 | [], [], _, _ => .nil
 | [], _ :: _, h, _ => by cases h
 | _ :: _, [], h, _ => by cases h
 | a :: l, b :: m, h, c => .cons (c 0 a b rfl rfl) (pf.OZ (by simpa using h) (fun i x y d g => c (i + 1) x y (by simpa using d) (by simpa using g)))
end
structure Deep {β : Type} (R : qa β) (k : Nat) : Prop where
 mono : GP R
 len : ∀ {μ ys x}, R μ ys x → ys.length = k
 one : ∀ {μ ys x}, R μ ys x → ∀ u ∈ ys, u.oneCell' = true
abbrev rD (k : Nat) := {ys : List Value // ys.length = k ∧ ∀ u ∈ ys, u.oneCell' = true}
def uy {k : Nat} (c : rD k) : List Value := c.1
theorem Ej {k : Nat} (x : rD k) : (uy x).length = k := x.2.1
theorem T9 {k : Nat} (x : rD k) : ∀ u ∈ uy x, u.oneCell' = true := x.2.2
theorem Sl.BO {α : Type} {R : qa α} {k : Nat} {μ : jF} {v : Value} {l : List α} (h : Sl R k μ v l) : v.oneCell' = true := by
 obtain ⟨A, c, rfl, _⟩ := h; rfl
section
variable {β : Type} {Rl : qa β} {k : Nat} {μ μ' : jF} {v : Value} {l : List β}
def Deep.cell (a : Deep Rl k) {ys : List Value} {x : β} (h : Rl μ ys x) : rD k := ⟨ys, a.len h, a.one h⟩
theorem Sl.raw (z : Deep Rl k) (h : Sl Rl k μ v l) : ∃ cl : List (rD k), Sl (Pl uy) k μ v cl ∧ pf (fun c x => Rl μ c.1 x) cl l := by
 obtain ⟨A, c, rfl, h1, s, u⟩ := h
 cases l with
 | nil => exact ⟨[], ⟨A, c, rfl, h1, s, fun h => absurd h (by simp)⟩, .nil⟩
 | cons x0 l =>
  obtain ⟨b, off, cs, T, fr, rfl, D, w⟩ := u (by simp)
  obtain ⟨cl, o, q⟩ := Cl (P := fun i x (c : rD k) => Rl μ c.1 x ∧ ∀ j y, c.1[j]? = some y → cs[off + i * k + j]? = some y) (m := x0 :: l) 0 (fun i x p => by
   obtain ⟨ys, _, d, g⟩ := w i x p
   exact ⟨z.cell d, d, by rw [bW]; exact g⟩)
  refine ⟨cl, ⟨_, c, by rw [o], by omega, s, fun _ => ⟨b, off, cs, T, fr, rfl, D, fun i c n => ?_⟩⟩, pf.OZ o (fun i c x n p => ?_)⟩
  ·have hi : i < (x0 :: l).length := by rw [← o]; exact (aH.1 n).1
   obtain ⟨t, a, _, g⟩ := q i _ (bq hi)
   rw [n] at a; cases a
   exact ⟨c.1, c.2.1, rfl, by rw [bW] at g; exact g⟩
  ·obtain ⟨t, a, d, _⟩ := q i x p
   rw [n] at a; cases a
   exact d
theorem Sl.N4 {cl : List (rD k)} (h : Sl (Pl uy) k μ v cl) (u : jC μ μ') (a : pf (fun c x => Rl μ' c.1 x) cl l) : Sl Rl k μ' v l := by
 obtain ⟨A, c, rfl, h1, n, o⟩ := h
 have d := a.length
 refine ⟨A, c, by rw [d], by omega, n, fun y => ?_⟩
 obtain ⟨b, off, cs, T, fr, rfl, q, p⟩ := o (by omega)
 refine ⟨b, off, cs, T, fr, rfl, u _ _ q, fun i x w => ?_⟩
 obtain ⟨c, s, t⟩ := a.get w
 obtain ⟨ys, g, j, m⟩ := p i c s
 cases j
 exact ⟨uy c, g, t, m⟩
def Mx (Rl : qa β) (k : Nat) (μ : jF) (W : World) (v : Value) (l : List β) : Prop := ∃ cl : List (rD k), Sl (Pl uy) k (hp W) v cl ∧ pf (fun c x => Rl μ c.1 x) cl l
theorem Mx.sl (c : Deep Rl k) {W : World} (h : Sl Rl k μ v l) (d : jC μ (hp W)) : Mx Rl k μ W v l := by
 obtain ⟨cl, h1, a⟩ := h.raw c
 exact ⟨cl, h1.mono (Pl.mono _) d, a⟩
theorem Sl.PC {b m : Nat} {cl : List (rD k)} {cs : Array Value} {e : TypeId} (hm : cl.length = m) (a : m ≤ maxLen) (d : cs.toList = (cl.map uy).flatten) (c : μ b = some (.cells cs e (0, 0))) : Sl (Pl uy) k μ (.slice (some ⟨b, 0, none⟩) m m) cl := by
 subst hm
 refine ⟨_, _, rfl, aM _, a, fun _ => ⟨b, 0, _, _, _, rfl, c, fun i x g => ⟨uy x, Ej x, rfl, fun j y h => ?_⟩⟩⟩
 have := wM Ej cl i x g j y h
 rw [← d] at this
 simpa using this
inductive Dh (Rl : qa β) (k : Nat) (μ : jF) : List Value → List β → Prop
 | nil : Dh Rl k μ [] []
 | cons {ys zs : List Value} {x : β} {l : List β} : Rl μ ys x → Dh Rl k μ zs l → Dh Rl k μ (ys ++ zs) (x :: l)
theorem Dh.cells (d : Deep Rl k) {ys : List Value} (h : Dh Rl k μ ys l) : ∃ cl : List (rD k), (cl.map uy).flatten = ys ∧ pf (fun c x => Rl μ c.1 x) cl l := by
 induction h with
 | nil => exact ⟨[], rfl, .nil⟩
 | cons h1 _ ih =>
  obtain ⟨cl, e, a⟩ := ih
  exact ⟨d.cell h1 :: cl, by rw [aQ, cy, e]; rfl, .cons h1 a⟩
theorem Mx.lit (d : Deep Rl k) {W : World} {b m : Nat} {ys : List Value} {e : TypeId} (h : Dh Rl k μ ys l) (hm : l.length = m) (g : m ≤ maxLen) (i : W.heap[b]? = some (.cells ys.toArray e (0, 0))) : Mx Rl k μ W (.slice (some ⟨b, 0, none⟩) m m) l := by
 obtain ⟨cl, c, a⟩ := h.cells d
 exact ⟨cl, Sl.PC (by rw [a.length]; exact hm) g c.symm i, a⟩
theorem Sl.imp {R R' : qa β} (h : Sl R k μ v l) (hi : ∀ ys x, R μ ys x → R' μ ys x) : Sl R' k μ v l := by
 obtain ⟨A, c, rfl, h1, a, d⟩ := h
 refine ⟨A, c, rfl, h1, a, fun p => ?_⟩
 obtain ⟨b, off, cs, T, fr, rfl, o, g⟩ := d p
 exact ⟨b, off, cs, T, fr, rfl, o, fun i x q => let ⟨ys, j, m, n⟩ := g i x q; ⟨ys, j, hi _ _ m, n⟩⟩
theorem E5 : ∀ (l : List Nat) (n : Nat), n ∈ l → n ≤ l.foldr max 0
 | [], n, h => by cases h
 | a :: l, n, h => by
  rcases aB.1 h with rfl | h
  ·exact Nat.le_max_left _ _
  ·exact cn (E5 l n h) (Nat.le_max_right _ _)
theorem Sl.TF {R : qa β} {a : Nat → qa β} (h : Sl R k μ v l) (D : ∀ ys x, R μ ys x → ∃ n, a n μ ys x) (up : ∀ n m ys x, n ≤ m → a n μ ys x → a m μ ys x) : ∃ n, Sl (a n) k μ v l := by
 obtain ⟨A, c, rfl, h1, s, w⟩ := h
 by_cases t : 0 < l.length
 ·obtain ⟨b, off, cs, T, fr, rfl, F, z⟩ := w t
  obtain ⟨I, J, u⟩ := Cl (P := fun i x (p : Nat × List Value) => p.2.length = k ∧ a p.1 μ p.2 x ∧ ∀ j y, p.2[j]? = some y → cs[off + i * k + j]? = some y) (m := l) 0 (fun i x q => by
   obtain ⟨ys, g, o, d⟩ := z i x q
   obtain ⟨n, G⟩ := D _ _ o
   exact ⟨(n, ys), g, G, by rw [bW]; exact d⟩)
  refine ⟨(I.map (·.1)).foldr max 0, _, c, rfl, h1, s, fun _ => ⟨b, off, cs, T, fr, rfl, F, fun i x q => ?_⟩⟩
  obtain ⟨p, hp, g, o, d⟩ := u i x q
  exact ⟨p.2, g, up _ _ _ _ (E5 _ _ (aR.2 ⟨p, List.mem_of_getElem? hp, rfl⟩)) o, by rw [bW] at d; exact d⟩
 ·exact ⟨0, A, c, rfl, h1, s, fun h => absurd h t⟩
theorem J2 {α : Type} {enc : α → List Value} {k : Nat} : Deep (zT enc k) 1 where
 mono := zT.mono _ _
 len := by rintro _ _ _ ⟨v, rfl, h⟩; rfl
 one := by rintro _ _ _ ⟨v, rfl, h⟩ u hu; rw [aF] at hu; subst hu; exact h.BO
def ol (e : TypeId) (Rl : qa β) (k : Nat) (μ : jF) (v : Value) (l : List β) (B : List (Nat × Obj)) : Prop := ∃ cl : List (rD k), jy e uy k v cl B ∧ pf (fun c x => Rl μ c.1 x) cl l
variable {e : TypeId} {B : List (Nat × Obj)}
theorem ol.mono (c : Deep Rl k) (h : ol e Rl k μ v l B) (d : jC μ μ') : ol e Rl k μ' v l B := by
 obtain ⟨cl, h1, a⟩ := h
 exact ⟨cl, h1, a.imp (fun _ _ h => c.mono _ _ _ _ d h)⟩
theorem ol.nil (e : TypeId) (Rl : qa β) (k : Nat) (μ : jF) : ol e Rl k μ (.slice none 0 0) [] [] := ⟨[], jy.nil _ _ _, .nil⟩
theorem ol.lit (d : Deep Rl k) {b m : Nat} {ys : List Value} (h : Dh Rl k μ ys l) (hm : l.length = m) (g : m ≤ maxLen) (i : ys.length = m * k) : ol e Rl k μ (.slice (some ⟨b, 0, none⟩) m m) l [(b, .cells ys.toArray e (0, 0))] := by
 obtain ⟨cl, c, a⟩ := h.cells d
 exact ⟨cl, jy.lit (by rw [a.length]; exact hm) g c.symm (by simpa using i), a⟩
theorem ol.form (h : ol e Rl k μ v l B) : ∃ A c, v = .slice A l.length c := by
 obtain ⟨cl, h1, a⟩ := h
 rw [← a.length]; exact h1.form
theorem ol.len (h : ol e Rl k μ v l B) : l.length ≤ 9223372036854775807 := by
 obtain ⟨cl, h1, a⟩ := h
 rw [← a.length]; exact h1.len
theorem ol.nd (h : ol e Rl k μ v l B) : (B.map (·.1)).Nodup := let ⟨_, h1, _⟩ := h; h1.nd
theorem ol.isNil {n c : Nat} (h : ol e Rl k μ (.slice none n c) l B) : l = [] := by
 obtain ⟨cl, h1, a⟩ := h
 have := a.length
 rw [h1.isNil] at this
 exact aX this.symm
theorem ol.sl (h : ol e Rl k μ v l B) (c : Deep Rl k) (d : jC μ μ') (hm : ∀ b o, (b, o) ∈ B → μ' b = some o) : Sl Rl k μ' v l := by
 obtain ⟨cl, h1, a⟩ := h
 exact Sl.N4 (h1.sl Ej hm) (jC.refl _) (a.imp (fun _ _ h => c.mono _ _ _ _ d h))
end
section
variable {β : Type} {Rl : qa β} {k : Nat} {μ : jF} {v : Value} {l : List β} {e : TypeId} {B : List (Nat × Obj)}
variable {dd : Bool} {F : Nat → Prop} {w W : World} {L : List (Nat × Obj)}
theorem ol.Sh (h : ol e Rl k μ v l B) (c : Deep Rl k) (a : ST dd F w W μ L) (d : ∀ p, p ∈ B → p ∈ L) : Sl Rl k (hp W) v l := h.sl c a.ju (fun _ _ g => a.at_ (d _ g))
theorem ol.NX (h : ol e Rl k μ v l B) (a : ST dd jT w W μ L) (c : ∀ p, p ∈ B → p ∈ L) : Fr w.heap.size v := let ⟨_, h1, _⟩ := h; h1.NX a c
theorem ST.T7 {Y : List (Nat × Obj)} (g : Deep Rl k) (a : ST dd F w W μ (B ++ Y)) (h : ol e Rl k μ v l B) : ∃ μ', ST dd F w W μ' Y ∧ jC μ μ' ∧ Lo F w μ μ' ∧ Sl Rl k μ' v l := by
 obtain ⟨cl, h1, d⟩ := h
 obtain ⟨μ', c, a2, a4, a3⟩ := ST.xP a h1 Ej
 exact ⟨μ', c, a2, a4, Sl.N4 a3 (jC.refl _) (d.imp (fun _ _ h => g.mono _ _ _ _ a2 h))⟩
variable {P : Program} {E : Nat → Value} {d : Option Nat} {ty : TypeId} {pos : String} {af : Array Edge} {g : Option (Nat × Bool)}
theorem Dq {t e' : TypeId} {x a : Operand} {y : IntKind} {i : Int} {x0 : β} {A : List Value → Prop} (o : ∀ {ys}, Rl μ ys x0 → A ys) (s : P.underlying t = some (.slice e')) (he : ∀ w, (sizeOf e').run P w = .ok k w) (u : ji E x = v) (hi : ji E a = .int y i) (q : Sl Rl k μ v l) (c : 0 ≤ i) (n : l[i.toNat]? = some x0) :
  ∃ p, (∃ ys, A ys ∧ At μ p ys) ∧ ∀ W, kA P E ⟨d, .indexAddr t x a, ty, pos, af, g⟩ W p W := by
 obtain ⟨p, ys, _, h, j, m⟩ := HQ (d := d) (ty := ty) (pos := pos) (af := af) (g := g) s he u hi q c n
 exact ⟨p, ⟨ys, o h, j⟩, m⟩
theorem O5 {x : Operand} {t e' : TypeId} (a : P.underlying t = some (.slice e')) (i : ji E x = v) (h : ol e Rl k μ v l B) : kA P E ⟨d, .call ⟨.builtin .len, #[x], #[t]⟩, ty, pos, af, g⟩ W (.int .i64 l.length) W := by
 obtain ⟨A, c, rfl⟩ := h.form
 exact zw a i
theorem PR {α g : Type} {a : Nat} {l m r : List α} {c d : List g} (h : lj a l m = some r) (h1 : c.length = l.length) (i : d.length = m.length) : lj a c d = some (c ++ d) ∧ r = l ++ m := by
 unfold lj at h ⊢
 rw [h1, i]
 split at h
 ·rename_i j; cases h; rw [aj j]; exact ⟨rfl, rfl⟩
 ·cases h
theorem OE {K : Value → World → Prop} {t : TypeId} {a : Nat} {z vs : Value} {m r : List β} {Y : List (Nat × Obj)} {x y : Operand} {i : TypeInfo} (U : Deep Rl k) (j : ST dd F w W μ (B ++ Y)) (p : 0 < k) (M : P.underlying t = some (.slice e)) (hi : P.info? e = some i) (R : i.zero = some z) (s : z.cells.size = k) (q : i.size = k) (o : i.bytes = a) (O : ji E x = v) (Q : ji E y = vs) (I : ol e Rl k μ v l B) (L : Mx Rl k μ W vs m) (J : lj a l m = some r) (h : ∀ W' c R', ST dd F w W' μ (R' ++ Y) → ol e Rl k μ c r R' → K c W') : mg P E ⟨d, .call ⟨.builtin .append, #[x, y], #[t, t]⟩, ty, pos, af, g⟩ W K := by
 obtain ⟨cl, h1, u⟩ := I
 obtain ⟨T, G, A⟩ := L
 obtain ⟨n, rfl⟩ := PR J u.length A.length
 exact lC j Ej p T9 M hi R s q o O Q h1 G n (fun W' c R' D a2 => h W' c R' D ⟨_, a2, u.append A⟩)
end
end Go.Proofs.YtbnbdigcbldfhaaGreat
