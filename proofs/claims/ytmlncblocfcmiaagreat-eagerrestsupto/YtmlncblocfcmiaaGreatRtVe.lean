/- a part of a proof of EagerRests -/
import Derived.WalkKit
import Derived.WalkLawsBesides
import Derived.Maps.AppendAt
import Derived.OrdersHeld
import Derived.Laws.IdiomStrings
import Derived.Maps.RangeRun
import Derived.Lib.BytesEntry
import Derived.Lib.Bytealg
import Derived.Laws.Externs
import Derived.ChangeKeysEq
import Derived.Deep.AppendSrc
import Derived.Laws.MakeOwn
set_option linter.all false
namespace Go.Proofs.YtmlncblocfcmiaaGreat
open Go.RowKit
def aA := @Option.bind_some
def aB := @Bool.false_eq_true
def aD := @List.length_append
def aJ := @Int.natCast_nonneg
def aK := @Nat.exists_eq_succ_of_ne_zero
def aM := @if_false
def aN := @List.append_assoc
def aO := @List.length_cons
def aP := @List.drop_length
def aQ := @List.mem_cons
def aR := @List.mem_append
def aT := @run_underlying
def aU := @List.eq_nil_of_length_eq_zero
def aV := @Nat.le_refl
def aW := @if_true
def aX := @congrArg
def aY := @if_neg
def aZ := @if_pos
def bA := @Bool.and_eq_true
def bB := @List.mem_map
def bE := @List.cons.injEq
def bG := @List.getElem?_eq_some_iff
def bH := @List.map_cons
def bI := @Nat.lt_succ_self
def bJ := @beq_self_eq_true
def bK := @List.flatten_cons
def bM := @List.mem_singleton
def bN := @Result.andThen_ok
def bO := @List.nil_append
def bP := @List.append_nil
def bT := @List.Perm.refl
def bU := @List.length_nil
def bV := @List.nodup_append
def bW := @Bool.not_true
def bX := @List.Perm.append_left
def cA := @List.cons_append
def cC := @List.forall_mem_cons
def cD := @List.map_append
def cE := @Sem.run_bind
def cF := @List.mem_append_left
def cH := @decide_true
def cI := @decide_eq_true_eq
def cK := @decide_false
def cM := @List.pairwise_cons
def cN := @Nat.add_mul
def cO := @Nat.mul_le_mul_right
def cP := @Bool.eq_iff_iff
def cQ := @List.flatten_append
def cR := @List.pairwise_append
def cU := @List.length_map
def cV := @List.mem_filter
def cW := @List.getElem?_eq_getElem
def cY := @List.length_take
def dl := @Array.length_toList
def dn := @List.nodup_cons
def dp := @List.flatten_nil
def dq := @Sem.run_pure
def dr := @List.take_of_length_le
def dt := @List.mem_of_getElem?
def dv := @List.eq_nil_or_concat
def dw := @List.length_filter_le
def dy := @Array.getElem?_eq_some_iff
def dB := @Nat.le_trans
def dC := @Calls.mono
def dE := @Nat.min_eq_left
def dF := @List.not_mem_nil
def dI := @Array.getElem?_toList
def dJ := @Addr.add_lit
def dK := @List.size_toArray
def dL := @Int.toNat_natCast
def dM := @List.length_eq_zero_iff
def dO := @List.getElem?_drop
def dP := @Option.map_some
def dQ := @Array.getElem?_modify
def dR := @List.mem_append_right
def dU := @List.concat_eq_append
def dV := @List.getElem?_take_of_lt
def dX := @Bool.eq_false_or_eq_true
def dY := @and_true
def dZ := @Nat.lt_of_lt_of_le
def ec := @List.findIdx?_eq_some_iff_getElem
def ef := @Bool.not_false
def ei := @DataW.trod_struct
def ek := @Nat.eq_zero_or_pos
def eo := @List.length_zipIdx
def ep := @Nat.add_assoc
def er := @List.map_map
def ev := @Nat.zero_le
def ey := @List.ext_getElem?
def eA := @Array.getD_eq_getD_getElem?
def eJ := @List.perm_middle
def eK := @List.getElem?_append_right
def eL := @List.findIdx?_cons
def eQ := @List.find?_eq_none
def eT := @List.perm_append_comm
def eU := @Classical.byContradiction
def eV := @List.getElem?_set
def eW := @List.getElem?_map
def eX := @List.pairwise_map
def eY := @List.mem_cons_of_mem
def eZ := @Bool.not_eq_true'
def fb := @Bool.true_and
def fc := @List.sum_cons
def fe := @ByteArray.toList_eq
def fg := @List.take_append
def fi := @List.getElem?_take
def fj := @Nat.zero_add
def fk := @List.map_nil
def fq := @List.find?_cons
def ft := @Bool.or_eq_true
def fx := @List.singleton_append
def fy := @List.getElem?_eq_none
def fz := @Function.comp_def
def fA := @List.perm_append_comm_assoc
def fB := @bne_self_eq_false
def fC := @List.getElem?_append
def fD := @List.perm_append_singleton
def fE := @Option.getD_some
def fJ := @Bool.not_not
def fK := @List.filter_cons
def fL := @List.getElem?_append_left
def fM := @List.mem_of_find?_eq_some
def fN := @List.findIdx?_eq_none_iff
def fO := @List.Perm.nodup_iff
def fP := @or_false
def fR := @Oper.upon_value
def fS := @Oper.upon_enter
def fU := @eq_iff_iff
def fV := @cell_of_row
def fW := @List.getElem?_cons_zero
def fX := @List.pairwise_mergeSort
def fY := @List.pairwise_singleton
def fZ := @Oper.upon_skip
def ga := @List.take_take
def gb := @List.findIdx?_map
def gd := @Option.some.injEq
def gf := @List.Perm.append_right
def gn := @List.flatMap_cons
def gp := @Nat.div_lt_iff_lt_mul
def gq := @List.take_append_drop
def gr := @List.length_replicate
def gu := @List.length_drop
def gA := @List.findIdx?_append
def gG := @List.mem_of_mem_take
def gH := @List.length_set
def gJ := @run_callFunc_extern
def gK := @List.map_congr_left
def gL := @List.mergeSort_perm
def gM := @List.flatMap_append
def gN := @List.take_length_add_append
def gQ := @run_loadCells_list
def gS := @grownCap_le_maxLen
def gT := @List.drop_take
def gU := @List.map_replicate
def gV := @List.map_mergeSort
def iu := @UInt8.toNat_lt
def iv := @Bool.and_assoc
def iw := @Bool.false_and
def iy := @Nat.le_succ
def iz := @run_storeCells_at
def iQ := @UInt8.ofNat_toNat
def iR := @List.find?_append
def iS := @List.any_eq_false
def iT := @of_decide_eq_true
def iU := @ByteArray.ext
def iW := @List.mem_flatten
def iX := @List.zipIdx_cons
def iY := @List.all_eq_true
def je := @Bool.not_eq_true
def jf := @List.any_eq_true
def jg := @List.mem_flatMap
def jh := @Nat.add_zero
def ji := @beq_iff_eq
def jm := @List.foldl_cons
def jo := @List.find?_some
def js := @Nat.one_mul
def jt := @getD_set_ne
def jy := @mem_ready
def nL (E : Nat → Value) (d : Nat) (v : Value) : Nat → Value := fun t => if t = d then v else E t
def jP (E : Nat → Value) : Operand → Value
 | .tmp t => E t
 | .const v => v
 | .global g => .pointer (some ⟨g, 0, none⟩)
 | .func f => .func (.func f) #[] #[]
def Ag (n : Nat) (a : Act) (E : Nat → Value) : Prop := a.tmps.size = n ∧ a.defers = [] ∧ ∀ t, a.tmps.getD t undef = E t
section
variable {n : Nat} {a : Act} {E : Nat → Value}
theorem Ag.eval (h : Ag n a E) : a.eval = jP E := by
 funext x
 cases x with
 | tmp t => exact h.2.2 t
 | const v => rfl
 | global g => rfl
 | func f => rfl
theorem Ag.put (h : Ag n a E) {d : Nat} (g : d < n) (v : Value) : Ag n (a.put (some d) v) (nL E d v) := by
 refine ⟨by simp [Act.put, h.1], h.2.1, fun t => ?_⟩
 have c := h.2.2 t
 simp only [Act.put, nL]
 by_cases b : t = d
 ·subst b
  simp [h.1, g]
 ·have : ¬ d = t := fun e => b e.symm
  rw [aY b, ← c]
  simp [eA, this]
theorem Ag.xN (h : Ag n a E) (v : Value) : Ag n (a.put none v) E := h
theorem Ag.yield (h : Ag n a E) {ops : Array Oper} {j t : Nat} {b : Bool} (d : (ops[j]?).bind (·.dst) = some t) (i : t < n) (k : E t = .bool b) : yielded ops a.tmps j = some b := by
 have c := h.2.2 t
 have g : a.tmps[t]? = some (E t) := by
  rw [← c]
  simp [eA, h.1, i]
 simp [yielded, d, g, k]
end
abbrev pU := Exit → (Nat → Value) → World → Prop
def lift (n : Nat) (Q : pU) : Exit → Act → World → Prop
 | .panic _, _, _ => False
 | .outgrown, _, _ => False
 | e, a, w => ∃ E, Ag n a E ∧ Q e E w
def CW (P : Program) (n : Nat) (c : Code) (Q : pU) (E : Nat → Value) (W : World) : Prop := ∀ a, Ag n a E → c.wp P (lift n Q) a W
def LW (P : Program) (n : Nat) (ops : Array Oper) (Q : pU) (l : List Oper) (E : Nat → Value) (W : World) : Prop := ∀ a, Ag n a E → wpList P ops (lift n Q) l a W
def pS (K : (Nat → Value) → World → Prop) (Q : pU) : pU
 | .normal, E, W => K E W
 | e, E, W => Q e E W
def vn (id : Nat) (Q : pU) : pU
 | .exit j, E, W => if j = id then Q .normal E W else Q (.exit j) E W
 | e, E, W => Q e E W
section
variable {P : Program} {n : Nat} {Q : pU} {E : Nat → Value} {W : World} {c x y : Code} {ops : Array Oper} {rest : List Oper} {o : Oper}
theorem FA {Q' : pU} (h : CW P n c Q E W) (g : ∀ e E W, Q e E W → Q' e E W) : CW P n c Q' E W := fun a ha =>
 wp_mono (h a ha) (fun e _ _ h => by
  cases e with
  | panic c => exact h
  | outgrown => exact h
  | _ => obtain ⟨E', b, d⟩ := h; exact ⟨E', b, g _ _ _ d⟩)
theorem jX (h : CW P n x (pS (fun E W => CW P n y Q E W) Q) E W) : CW P n (.seq x y) Q E W := fun a ha =>
 wp_seq (wp_mono (h a ha) (fun e c g h => by
  cases e with
  | normal => obtain ⟨E', b, d⟩ := h; exact d c b
  | _ => exact h))
theorem ll (h : Q .normal E W) : CW P n .skip Q E W := fun _ ha => wp_skip ⟨E, ha, h⟩
theorem kB (h : Q .ret E W) : CW P n .ret Q E W := fun _ ha => wp_ret ⟨E, ha, h⟩
theorem mZ {id : Nat} (h : Q (.exit id) E W) : CW P n (.exit id) Q E W := fun _ ha => wp_exit ⟨E, ha, h⟩
theorem lQ {id : Nat} (h : CW P n c (vn id Q) E W) : CW P n (.block id c) Q E W := fun a ha =>
 wp_block (wp_mono (h a ha) (fun e i k h => by
  cases e with
  | exit j =>
   obtain ⟨E', b, d⟩ := h
   simp only [Exit.inBlock]
   simp only [vn] at d
   split at d
   ·rename_i g; rw [aZ g]; exact ⟨E', b, d⟩
   ·rename_i g; rw [aY g]; exact ⟨E', b, d⟩
  | _ => exact h))
theorem Ko {co : Operand} {b : Bool} (c : jP E co = .bool b) (g : b = true → CW P n x Q E W) (d : b = false → CW P n y Q E W) : CW P n (.cond co x y) Q E W := fun a ha => by
 refine wp_cond_split (t := b) (by rw [ha.eval]; exact c) (fun h => g h a ha) (fun h => d h a ha)
theorem sV {co : Operand} (a : jP E co = .bool true) (h : CW P n x Q E W) : CW P n (.cond co x y) Q E W := Ko a (fun _ => h) (fun h => by cases h)
theorem oS {co : Operand} (a : jP E co = .bool false) (h : CW P n y Q E W) : CW P n (.cond co x y) Q E W := Ko a (fun h => by cases h) (fun _ => h)
theorem jW {id : Nat} {l : List Oper} (h : LW P n l.toArray Q l E W) : CW P n (.region id l.toArray false) Q E W := fun a ha => wp_region_lit (h a ha)
theorem ky (h : Q .normal E W) : LW P n ops Q [] E W := fun _ ha => wpList_nil ⟨E, ha, h⟩
theorem GP {P : Program} {c : Code} {Q : Exit → Act → World → Prop} {a : Act} {w : World} (I : Nat → Act → World → Prop) (m : Nat) (u : I m a w) (round : ∀ m a w, I m a w → c.wp P (Exit.then (fun q r => ∃ y, y < m ∧ I y q r) Q) a w) : (Code.loop c).wp P Q a w := by
 intro b k cs
 have key : ∀ m a w, I m a w → ∃ e q r, Q e q r ∧ Arrives P (lone (b.at a (.code c :: .inLoop c :: k)) cs w) b k cs e q r := by
  intro m
  induction m using Nat.strongRecOn with
  | _ m ih =>
   intro a w A
   obtain ⟨e, g, h, j, d⟩ := round m a w A b (.inLoop c :: k) cs
   cases e with
   | normal =>
    obtain ⟨y, z, n⟩ := j
    obtain ⟨t, s, v, o, i⟩ := ih y z g h n
    exact ⟨t, s, v, o, .of_steps (Steps.trans d (.one step_inLoop)) i⟩
   | exit id => exact ⟨_, g, h, j, .pass (x := .inLoop c) rfl (fun _ _ => .inl (by simp)) d⟩
   | goto l => exact ⟨_, g, h, j, .pass (x := .inLoop c) rfl (fun _ _ => .inl (by simp)) d⟩
   | ret => exact ⟨_, g, h, j, .pass (x := .inLoop c) rfl (fun _ _ => .inl (by simp)) d⟩
   | panic D => exact ⟨_, g, h, j, .pass (x := .inLoop c) rfl (fun _ _ => .inl (by simp)) d⟩
   | outgrown => exact ⟨_, g, h, j, .pass (x := .inLoop c) rfl (fun _ _ => .inl (by simp)) d⟩
 obtain ⟨e, q, r, j, d⟩ := key m a w u
 exact ⟨e, q, r, j, .of_steps (.one step_loop) d⟩
theorem np (I : Nat → (Nat → Value) → World → Prop) (m : Nat) (b : I m E W) (round : ∀ m E W, I m E W → CW P n c (pS (fun E' W' => ∃ d, d < m ∧ I d E' W') Q) E W) : CW P n (.loop c) Q E W := fun a ha =>
 GP (fun m a w => ∃ E, Ag n a E ∧ I m E w) m ⟨E, ha, b⟩ (fun m a w ⟨E, ha, k⟩ =>
  wp_mono (round m E w k a ha) (fun e l o h => by
   cases e with
   | normal => obtain ⟨E', i, d, j, g⟩ := h; exact ⟨d, j, E', i, g⟩
   | _ => exact h))
def kq (n : Nat) (ops : Array Oper) (E : Nat → Value) (o : Oper) : Prop :=
 o.guard = none ∨ ∃ j want t, o.guard = some (j, want) ∧ (ops[j]?).bind (·.dst) = some t ∧ t < n ∧ E t = .bool want
theorem kq.of {a : Act} (h : kq n ops E o) (ha : Ag n a E) : Region.wanted o (yielded ops a.tmps) = true := by
 rcases h with h | ⟨j, want, t, c, d, g, b⟩
 ·simp [Region.wanted, h]
 ·simp [Region.wanted, c, ha.yield d g b]
theorem Kt {d : Nat} {v : Value} {W' : World} (hw : kq n ops E o) (b : o.dst = some d) (c : d < n) (g : (execOp (jP E) o).run P W = .ok (.value v) W') (h : LW P n ops Q rest (nL E d v) W') : LW P n ops Q (o :: rest) E W := fun a ha => by
 unfold wpList
 rw [aZ (hw.of ha)]
 refine .inl ?_
 unfold Oper.wp
 rw [ha.eval, g, fR, b]
 exact h _ (ha.put c v)
theorem Md {W' : World} (hw : kq n ops E o) (b : o.dst = none) (c : (execOp (jP E) o).run P W = .ok .skip W') (h : LW P n ops Q rest E W') : LW P n ops Q (o :: rest) E W := fun a ha => by
 unfold wpList
 rw [aZ (hw.of ha)]
 refine .inl ?_
 unfold Oper.wp
 rw [ha.eval, c, fZ, b]
 exact h _ (ha.xN _)
theorem ML {f : FuncId} {args : Array Value} {d : Nat} (hw : kq n ops E o) (c : o.dst = some d) (i : d < n) (j : (execOp (jP E) o).run P W = .ok (.enter f args) W) (h : Calls P f args W fun e b => ∃ v, e = .returned v ∧ LW P n ops Q rest (nL E d v) b) : LW P n ops Q (o :: rest) E W := fun a ha => by
 unfold wpList
 rw [aZ (hw.of ha)]
 refine .inl ?_
 unfold Oper.wp
 rw [ha.eval, j, fS]
 refine h.mono ?_
 rintro e b ⟨v, rfl, g⟩
 simp only [c]
 exact g _ (ha.put i v)
theorem PU {d j t : Nat} {want : Bool} (c : o.dst = some d) (k : d < n) (g : o.guard = some (j, want)) (i : (ops[j]?).bind (·.dst) = some t) (l : t < n) (b : E t = .bool (!want)) (h : LW P n ops Q rest (nL E d undef) W) : LW P n ops Q (o :: rest) E W := fun a ha => by
 unfold wpList
 have m := ha.yield i l b
 rw [aY (by simp [Region.wanted, g, m])]
 rw [c]
 exact h _ (ha.put k _)
end
end Go.Proofs.YtmlncblocfcmiaaGreat
namespace Go.Proofs.YtmlncblocfcmiaaGreat
open Go.RowKit
variable {dd : Bool}
abbrev km := Nat → Option Obj
def hp (W : World) : km := fun b => W.heap[b]?
def su (dd : Bool) (a b : Nat) : Prop := dd = true → a ≤ b
theorem su.of {dd : Bool} {a b : Nat} (h : a ≤ b) : su dd a b := fun _ => h
theorem su.trans {dd : Bool} {a b c : Nat} (h : su dd a b) (k : su dd b c) : su dd a c := fun e => dB (h e) (k e)
structure Ex (dd : Bool) (w W : World) : Prop where
 os : W.os = w.os
 tape : W.tape = w.tape
 output : W.output = w.output
 drawn : su dd w.drawn W.drawn
 size : w.heap.size ≤ W.heap.size
 mh : ∀ b, b < w.heap.size → W.heap[b]? = w.heap[b]?
theorem Ex.refl (w : World) : Ex dd w w := ⟨rfl, rfl, rfl, su.of (aV _), aV _, fun _ _ => rfl⟩
theorem Ex.trans {a b c : World} (h : Ex dd a b) (k : Ex dd b c) : Ex dd a c :=
 ⟨k.os.trans h.os, k.tape.trans h.tape, k.output.trans h.output, su.trans h.drawn k.drawn, dB h.size k.size, fun i d => (k.mh i (dZ d h.size)).trans (h.mh i d)⟩
theorem Ex.drew (w : World) : Ex dd w w.drew := ⟨rfl, rfl, rfl, su.of (iy _), aV _, fun _ _ => rfl⟩
theorem Ex.alloc (w : World) (o : Obj) : Ex dd w (w.alloc o) := ⟨rfl, rfl, rfl, su.of (aV _), by show w.heap.size ≤ (w.heap.push o).size; simp, fun k hk => Below.heap_alloc w o k hk⟩
theorem Ex.lD {w W : World} (h : Ex true w W) : Ex dd w W := ⟨h.os, h.tape, h.output, su.of (h.drawn rfl), h.size, h.mh⟩
def kf (μ μ' : km) : Prop := ∀ b o, μ b = some o → μ' b = some o
theorem kf.refl (μ : km) : kf μ μ := fun _ _ h => h
theorem kf.trans {a b c : km} (h : kf a b) (k : kf b c) : kf a c := fun x o d => k x o (h x o d)
structure ST (dd : Bool) (F : Nat → Prop) (w W : World) (μ : km) (L : List (Nat × Obj)) : Prop where
 os : W.os = w.os
 tape : W.tape = w.tape
 output : W.output = w.output
 drawn : su dd w.drawn W.drawn
 size : w.heap.size ≤ W.heap.size
 mh : ∀ b, b < w.heap.size → ¬ F b → W.heap[b]? = w.heap[b]?
 mem : ∀ b o, μ b = some o → W.heap[b]? = some o
 box : ∀ b o, (b, o) ∈ L → W.heap[b]? = some o ∧ μ b = none ∧ (w.heap.size ≤ b ∨ F b)
 nd : (L.map (·.1)).Nodup
def kQ : Nat → Prop := fun _ => False
theorem ST.start (w : World) : ST dd kQ w w (hp w) [] :=
 ⟨rfl, rfl, rfl, su.of (aV _), aV _, fun _ _ _ => rfl, fun _ _ h => h, fun _ _ h => (by cases h), by simp⟩
section
variable {F : Nat → Prop} {w W W' : World} {μ μ' : km} {L L' : List (Nat × Obj)}
theorem ST.ex (h : ST dd kQ w W μ L) : Ex dd w W := ⟨h.os, h.tape, h.output, h.drawn, h.size, fun b a => h.mh b a (fun x => x)⟩
theorem LS (W : World) (o : Obj) : (W.alloc o).heap[W.heap.size]? = some o := heap_alloc_new W o
theorem ny {W : World} {b : Nat} {o : Obj} (h : W.heap[b]? = some o) : b < W.heap.size := (dy.1 h).1
theorem ST.drew (h : ST dd F w W μ L) : ST dd F w W.drew μ L :=
 ⟨h.os, h.tape, h.output, su.trans h.drawn (su.of (iy _)), h.size, h.mh, h.mem, h.box, h.nd⟩
theorem ST.Dg (h : ST dd F w W μ L) {b : Nat} {o : Obj} (a : (b, o) ∈ L) : b < W.heap.size := ny (h.box b o a).1
theorem ST.alloc (h : ST dd F w W μ L) (o : Obj) : ST dd F w (W.alloc o) μ ((W.heap.size, o) :: L) := by
 refine ⟨h.os, h.tape, h.output, h.drawn, dB h.size (Ex.alloc (dd := true) W o).size, fun b a i => ?_, fun b c a => ?_, fun b c a => ?_, ?_⟩
 ·rw [(Ex.alloc (dd := true) W o).mh b (dZ a h.size)]; exact h.mh b a i
 ·have := h.mem b c a
  rw [(Ex.alloc (dd := true) W o).mh b (ny this)]; exact this
 ·rcases aQ.1 a with e | a
  ·cases e
   refine ⟨LS W o, ?_, .inl h.size⟩
   cases hm : μ W.heap.size with
   | none => rfl
   | some x => have := ny (h.mem _ _ hm); omega
  ·obtain ⟨h1, d, g⟩ := h.box b c a
   exact ⟨by rw [(Ex.alloc (dd := true) W o).mh b (ny h1)]; exact h1, d, g⟩
 ·simp only [bH, dn]
  refine ⟨fun hm => ?_, h.nd⟩
  obtain ⟨⟨b, c⟩, a, e⟩ := bB.1 hm
  have := h.Dg a
  simp at e
  omega
theorem ST.put {A B : List (Nat × Obj)} {b : Nat} {o m : Obj} (h : ST dd F w W μ (A ++ (b, o) :: B)) (t : W'.os = W.os ∧ W'.tape = W.tape ∧ W'.output = W.output ∧ W.drawn ≤ W'.drawn ∧ W'.heap.size = W.heap.size) (d : ∀ k, k ≠ b → W'.heap[k]? = W.heap[k]?) (u : W'.heap[b]? = some m) : ST dd F w W' μ (A ++ (b, m) :: B) := by
 obtain ⟨h1, n, q, r, s⟩ := t
 have c := h.box b o (by simp)
 have a := h.nd
 simp only [cD, bH] at a
 have g : ∀ x o, (x, o) ∈ A → x ≠ b := fun x o j e => by
  subst e
  have := (bV.1 a).2.2 x (bB.2 ⟨_, j, rfl⟩) x (by simp)
  exact this rfl
 have i : ∀ x o, (x, o) ∈ B → x ≠ b := fun x o j e => by
  subst e
  have := (dn.1 (bV.1 a).2.1).1
  exact this (bB.2 ⟨_, j, rfl⟩)
 refine ⟨h1.trans h.os, n.trans h.tape, q.trans h.output, su.trans h.drawn (su.of r), by rw [s]; exact h.size, fun k hk l => ?_, fun k x hk => ?_, fun k x hk => ?_, by simpa using a⟩
 ·rw [d k (fun e => by subst e; rcases c.2.2 with h | h; omega; exact l h)]
  exact h.mh k hk l
 ·rw [d k (fun e => by subst e; rw [c.2.1] at hk; cases hk)]
  exact h.mem k x hk
 ·rcases aR.1 hk with hk | hk
  ·rw [d k (g k x hk)]; exact h.box k x (by simp [hk])
  ·rcases aQ.1 hk with e | hk
   ·cases e; exact ⟨u, c.2⟩
   ·rw [d k (i k x hk)]; exact h.box k x (by simp [hk])
def Lo (F : Nat → Prop) (w : World) (μ μ' : km) : Prop := ∀ b, b < w.heap.size → ¬ F b → μ' b = μ b
theorem Lo.refl {F : Nat → Prop} {w : World} {μ : km} : Lo F w μ μ := fun _ _ _ => rfl
theorem Lo.trans {F : Nat → Prop} {w : World} {a b c : km} (h : Lo F w a b) (k : Lo F w b c) : Lo F w a c := fun x g d => (k x g d).trans (h x g d)
def grow (μ : km) (W W' : World) : km := fun b => if b < W.heap.size then μ b else W'.heap[b]?
theorem ST.BL (h : ST dd F w W μ L) {b : Nat} {o : Obj} (a : μ b = some o) : b < W.heap.size := ny (h.mem b o a)
theorem ST.call (h : ST dd F w W μ L) (c : Ex dd W W') : ST dd F w W' (grow μ W W') L := by
 refine ⟨c.os.trans h.os, c.tape.trans h.tape, c.output.trans h.output, su.trans h.drawn c.drawn, dB h.size c.size, fun b a j => ?_, fun b o a => ?_, fun b o a => ?_, h.nd⟩
 ·rw [c.mh b (dZ a h.size)]; exact h.mh b a j
 ·unfold grow at a
  split at a
  ·rename_i d; rw [c.mh b d]; exact h.mem b o a
  ·exact a
 ·obtain ⟨h1, g, i⟩ := h.box b o a
  exact ⟨by rw [c.mh b (ny h1)]; exact h1, by unfold grow; rw [aZ (ny h1)]; exact g, i⟩
theorem ST.MI (h : ST dd F w W μ L) (W' : World) : kf μ (grow μ W W') := fun b o a => by
 unfold grow; rw [aZ (h.BL a)]; exact a
theorem ST.lD (h : ST dd F w W μ' L) (c : kf μ μ') : ST dd F w W μ L :=
 ⟨h.os, h.tape, h.output, h.drawn, h.size, h.mh, fun b o a => h.mem b o (c b o a), fun b o a => by
  obtain ⟨h1, d, g⟩ := h.box b o a
  refine ⟨h1, ?_, g⟩
  cases hm : μ b with
  | none => rfl
  | some x => (have := c b x hm; rw [d] at this; cases this), h.nd⟩
theorem ST.E8 (h : ST dd F w W μ L) (a : Ex dd W W') : ST dd F w W' μ L := (h.call a).lD (h.MI W')
theorem ST.jJ (h : ST dd F w W μ L) : kf μ (hp W) := h.mem
def I1 (μ : km) (b : Nat) (o : Obj) : km := fun k => if k = b then some o else μ k
theorem ST.FE {A B : List (Nat × Obj)} {b : Nat} {o : Obj} (h : ST dd F w W μ (A ++ (b, o) :: B)) : ST dd F w W (I1 μ b o) (A ++ B) := by
 have d := h.box b o (by simp)
 have a := h.nd
 simp only [cD, bH] at a
 have i : ∀ x y, (x, y) ∈ A ++ B → x ≠ b := fun x y c e => by
  subst e
  rcases aR.1 c with c | c
  ·exact (bV.1 a).2.2 x (bB.2 ⟨_, c, rfl⟩) x (by simp) rfl
  ·exact (dn.1 (bV.1 a).2.1).1 (bB.2 ⟨_, c, rfl⟩)
 refine ⟨h.os, h.tape, h.output, h.drawn, h.size, h.mh, fun k x hk => ?_, fun k x hk => ?_, ?_⟩
 ·unfold I1 at hk
  split at hk
  ·rename_i e; cases hk; rw [e]; exact d.1
  ·exact h.mem k x hk
 ·have g : (k, x) ∈ A ++ (b, o) :: B := by
   rcases aR.1 hk with h | h <;> simp [h]
  obtain ⟨h1, j, l⟩ := h.box k x g
  exact ⟨h1, by unfold I1; rw [aY (i k x hk)]; exact j, l⟩
 ·have : (A ++ B).Sublist (A ++ (b, o) :: B) := List.Sublist.append (List.Sublist.refl A) (List.sublist_cons_self _ _)
  exact List.Nodup.sublist (this.map _) h.nd
theorem ST.FL {A B : List (Nat × Obj)} {b : Nat} {o : Obj} (h : ST dd F w W μ (A ++ (b, o) :: B)) : kf μ (I1 μ b o) := fun k x hk => by
 unfold I1
 split
 ·rename_i e; subst e; rw [(h.box k o (by simp)).2.1] at hk; cases hk
 ·exact hk
theorem ST.Le {A B : List (Nat × Obj)} {b : Nat} {o : Obj} (h : ST dd F w W μ (A ++ (b, o) :: B)) : Lo F w μ (I1 μ b o) := fun k hk c => by
 refine aY (fun e => ?_)
 subst e
 rcases (h.box k o (by simp)).2.2 with a | a
 ·omega
 ·exact c a
theorem ST.drop {A B : List (Nat × Obj)} {p : Nat × Obj} (h : ST dd F w W μ (A ++ p :: B)) : ST dd F w W μ (A ++ B) :=
 (h.FE (b := p.1) (o := p.2)).lD h.FL
end
abbrev pj (α : Type) := km → List Value → α → Prop
def Sl {α : Type} (R : pj α) (k : Nat) (μ : km) (v : Value) (l : List α) : Prop :=
 ∃ A c, v = .slice A l.length c ∧ l.length ≤ c ∧ c ≤ maxLen ∧ (0 < l.length → ∃ b off cs T fr, A = some ⟨b, off, none⟩ ∧ μ b = some (.cells cs T fr) ∧
  ∀ i x, l[i]? = some x → ∃ ys, ys.length = k ∧ R μ ys x ∧ ∀ j y, ys[j]? = some y → cs[off + i * k + j]? = some y)
def At (μ : km) (v : Value) (ys : List Value) : Prop :=
 ∃ b off cs T fr, v = .pointer (some ⟨b, off, none⟩) ∧ μ b = some (.cells cs T fr) ∧ ∀ j y, ys[j]? = some y → cs[off + j]? = some y
def Fr (B : Nat) (v : Value) : Prop := ∀ b, v.ownBlock = some b → B ≤ b
def E0 {α : Type} (R : pj α) : Prop := ∀ μ μ' ys x, kf μ μ' → R μ ys x → R μ' ys x
def Pl {α : Type} (enc : α → List Value) : pj α := fun _ ys x => ys = enc x
theorem Pl.mono {α : Type} (enc : α → List Value) : E0 (Pl enc) := fun _ _ _ _ _ h => h
theorem Sl.mono {α : Type} {R : pj α} (t : E0 R) {k : Nat} {μ μ' : km} {v : Value} {l : List α} (h : Sl R k μ v l) (d : kf μ μ') : Sl R k μ' v l := by
 obtain ⟨A, c, h1, g, j, m⟩ := h
 refine ⟨A, c, h1, g, j, fun u => ?_⟩
 obtain ⟨b, off, cs, T, fr, n, o, q⟩ := m u
 exact ⟨b, off, cs, T, fr, n, d _ _ o, fun i x w => let ⟨ys, r, s, a⟩ := q i x w; ⟨ys, r, t _ _ _ _ d s, a⟩⟩
theorem At.mono {μ μ' : km} {v : Value} {ys : List Value} (h : At μ v ys) (d : kf μ μ') : At μ' v ys := by
 obtain ⟨b, off, cs, T, fr, h1, a, c⟩ := h
 exact ⟨b, off, cs, T, fr, h1, d _ _ a, c⟩
theorem Sl.len {α : Type} {R : pj α} {k : Nat} {μ : km} {v : Value} {l : List α} (h : Sl R k μ v l) : l.length ≤ 9223372036854775807 := by
 obtain ⟨A, c, h1, b, a, d⟩ := h
 unfold maxLen at a
 omega
theorem Sl.nil {α : Type} (R : pj α) (k : Nat) (μ : km) : Sl R k μ (.slice none 0 0) [] := ⟨none, 0, rfl, aV _, by decide, fun h => absurd h (by simp)⟩
theorem Fr.mono {B B' : Nat} {v : Value} (h : Fr B v) (a : B' ≤ B) : Fr B' v := fun b c => dB a (h b c)
theorem Fr.nil (B : Nat) : Fr B (.slice none 0 0) := fun b a => by simp [Value.ownBlock] at a
end Go.Proofs.YtmlncblocfcmiaaGreat
namespace Go.Proofs.YtmlncblocfcmiaaGreat
open Go.RowKit
variable {dd : Bool}
section
variable {P : Program} {n : Nat} {Q : pU} {E : Nat → Value} {W : World} {ops : Array Oper} {rest : List Oper}
 {d : Option Nat} {ty : TypeId} {pos : String} {af : Array Edge} {g : Option (Nat × Bool)}
 {F : Nat → Prop} {w : World} {μ : km} {L : List (Nat × Obj)}
def lV (P : Program) (E : Nat → Value) (o : Oper) (W : World) (v : Value) (W' : World) : Prop := (execOp (jP E) o).run P W = .ok (.value v) W'
theorem Fz {o : Oper} {dd : Nat} {v : Value} (hw : kq n ops E o) (a : o.dst = some dd) (b : dd < n) (c : lV P E o W v W) (h : LW P n ops Q rest (nL E dd v) W) : LW P n ops Q (o :: rest) E W := Kt hw a b c h
theorem jN {x : Operand} {v : Value} (a : jP E x = v) : lV P E ⟨d, .move x, ty, pos, af, g⟩ W v W := by rw [← a]; rfl
theorem nU {x : Operand} {v : Value} (a : jP E x = v) : lV P E ⟨d, .assign x, ty, pos, af, g⟩ W v W := by rw [← a]; rfl
theorem kd {c x y : Operand} {v : Value} (a : jP E c = .bool true) (b : jP E x = v) : lV P E ⟨d, .pick c x y, ty, pos, af, g⟩ W v W := by
 show (do pure (.value (if ← asBool (jP E c) then jP E x else jP E y)) : Sem Next).run P W = _
 rw [a, ← b]; simp [asBool]
theorem ke {c x y : Operand} {v : Value} (a : jP E c = .bool false) (b : jP E y = v) : lV P E ⟨d, .pick c x y, ty, pos, af, g⟩ W v W := by
 show (do pure (.value (if ← asBool (jP E c) then jP E x else jP E y)) : Sem Next).run P W = _
 rw [a, ← b]; simp [asBool]
theorem vk {x : Operand} {i : Nat} {vs : Array Value} {v : Value} (b : jP E x = .tuple vs) (a : vs[i]? = some v) : lV P E ⟨d, .extract x i, ty, pos, af, g⟩ W v W := by
 show (do pure (.value (← Instr.extract (jP E x) i)) : Sem Next).run P W = _
 rw [b]; simp [Instr.extract, a]
theorem mC {u : TypeId} {x : Operand} {b : Bool} (a : jP E x = .bool b) : lV P E ⟨d, .unOp .not u x, ty, pos, af, g⟩ W (.bool !b) W := by
 show (do pure (.value (← Op.unary .not (jP E x))) : Sem Next).run P W = _
 rw [a]; simp [Op.unary]
theorem Kd {fn : Fn} {first caps : Array Operand} {v : Value} (a : .func fn (first.map (jP E)) (caps.map (jP E)) = v) : lV P E ⟨d, .makeFunc fn first caps, ty, pos, af, g⟩ W v W := by
 show (do pure (.value (← Instr.makeFunc fn (first.map (jP E)) (caps.map (jP E)))) : Sem Next).run P W = _
 rw [← a]; simp [Instr.makeFunc]
def GY (k : IntKind) (op : BinOp) (a b : Int) : Option Value :=
 match op with
 | .eql => some (.bool (a == b))
 | .neq => some (.bool (a != b))
 | .lss => some (.bool (decide (a < b)))
 | .leq => some (.bool (decide (a ≤ b)))
 | .gtr => some (.bool (decide (a > b)))
 | .geq => some (.bool (decide (a ≥ b)))
 | .add => some (.int k (k.wrap (a + b)))
 | .sub => some (.int k (k.wrap (a - b)))
 | .mul => some (.int k (k.wrap (a * b)))
 | _ => none
theorem kL {op : BinOp} {c l : TypeId} {x y : Operand} {k : IntKind} {a b : Int} {v : Value} (i : jP E x = .int k a) (j : jP E y = .int k b) (h : GY k op a b = some v) :
  lV P E ⟨d, .binOp op c x y l, ty, pos, af, g⟩ W v W := by
 show (do let r ← (do eqGuard op c x y (jP E x) (jP E y); binOp op c (jP E x) (jP E y)); pure (.value r) : Sem Next).run P W = _
 rw [i, j]
 cases op <;> simp [GY] at h <;> subst h <;> simp [eqGuard, binOp, Op.intCmp, Op.intArith]
def M6 (op : BinOp) (a b : ByteArray) : Option Value :=
 match op with
 | .eql => some (.bool (a.toList == b.toList))
 | .neq => some (.bool !(a.toList == b.toList))
 | .lss => some (.bool (Op.bytesLess a.toList b.toList))
 | .leq => some (.bool (Op.bytesLess a.toList b.toList || a.toList == b.toList))
 | .gtr => some (.bool !(Op.bytesLess a.toList b.toList || a.toList == b.toList))
 | .geq => some (.bool !(Op.bytesLess a.toList b.toList))
 | _ => none
def zo (a b : ByteArray) : Option ByteArray := if ((a.size + b.size : Nat) : Int) > IntKind.i64.max then none else some (a ++ b)
theorem JY {op : BinOp} {c k : TypeId} {x y : Operand} {a b : ByteArray} {v : Value} (i : jP E x = .string a) (j : jP E y = .string b) (h : M6 op a b = some v) :
  lV P E ⟨d, .binOp op c x y k, ty, pos, af, g⟩ W v W := by
 show (do let r ← (do eqGuard op c x y (jP E x) (jP E y); binOp op c (jP E x) (jP E y)); pure (.value r) : Sem Next).run P W = _
 rw [i, j]
 cases op <;> simp [M6] at h <;> subst h <;> simp [eqGuard, binOp, Op.stringOp]
theorem Mc {op : BinOp} {c l : TypeId} {x y : Operand} {a b : Bool} (i : P.underlying c = some .bool) (j : jP E x = .bool a) (k : jP E y = .bool b) (h : op = .neq) :
  lV P E ⟨d, .binOp op c x y l, ty, pos, af, g⟩ W (.bool (a != b)) W := by
 subst h
 show (do let r ← (do eqGuard .neq c x y (jP E x) (jP E y); binOp .neq c (jP E x) (jP E y)); pure (.value r) : Sem Next).run P W = _
 rw [j, k]
 simp [eqGuard, binOp, Op.equal, Op.maxDepth, run_equalIn_bool' W 9999 c a b i, bne]
theorem xg {c l : TypeId} {x y : Operand} {a b : Array Value} {r : Bool} (j : jP E x = .agg a) (k : jP E y = .agg b) (h : ∀ W, (eqGuard .eql c x y (.agg a) (.agg b)).run P W = .ok () W) (i : ∀ W, (binOp .eql c (.agg a) (.agg b)).run P W = .ok (.bool r) W) : lV P E ⟨d, .binOp .eql c x y l, ty, pos, af, g⟩ W (.bool r) W := by
 show (do let r ← (do eqGuard .eql c x y (jP E x) (jP E y); binOp .eql c (jP E x) (jP E y)); pure (.value r) : Sem Next).run P W = _
 rw [j, k]; simp [h W, i W]
theorem GS {c l : TypeId} {x y : Operand} {a b : Array Value} {r : Bool} (j : jP E x = .agg a) (k : jP E y = .agg b) (h : ∀ W, (eqGuard .neq c x y (.agg a) (.agg b)).run P W = .ok () W) (i : ∀ W, (binOp .neq c (.agg a) (.agg b)).run P W = .ok (.bool r) W) : lV P E ⟨d, .binOp .neq c x y l, ty, pos, af, g⟩ W (.bool r) W := by
 show (do let r ← (do eqGuard .neq c x y (jP E x) (jP E y); binOp .neq c (jP E x) (jP E y)); pure (.value r) : Sem Next).run P W = _
 rw [j, k]; simp [h W, i W]
theorem Ae {t e : TypeId} (dd : Nat) (b : P.underlying t = some (.pointer e)) (a : Option Addr) (W : World) : (Op.equalIn (dd + 1) t (.pointer a) (.pointer none)).run P W = .ok a.isNone W := by
 cases a <;> simp [Op.equalIn, aT b]
theorem rS {b k e : TypeId} {x y : Operand} {a : Option Addr} (h : P.underlying b = some (.pointer e)) (i : jP E x = .pointer a) (j : jP E y = .pointer none) :
  lV P E ⟨d, .binOp .eql b x y k, ty, pos, af, g⟩ W (.bool a.isNone) W := by
 show (do let r ← (do eqGuard .eql b x y (jP E x) (jP E y); binOp .eql b (jP E x) (jP E y)); pure (.value r) : Sem Next).run P W = _
 rw [i, j]
 have c := Ae 9999 h a W
 simp [eqGuard, binOp, Op.equal, show Op.maxDepth = 9999 + 1 from rfl, c]
theorem BU {b k e : TypeId} {x y : Operand} {a : Option Addr} (h : P.underlying b = some (.pointer e)) (i : jP E x = .pointer a) (j : jP E y = .pointer none) :
  lV P E ⟨d, .binOp .neq b x y k, ty, pos, af, g⟩ W (.bool !a.isNone) W := by
 show (do let r ← (do eqGuard .neq b x y (jP E x) (jP E y); binOp .neq b (jP E x) (jP E y)); pure (.value r) : Sem Next).run P W = _
 rw [i, j]
 have c := Ae 9999 h a W
 simp [eqGuard, binOp, Op.equal, show Op.maxDepth = 9999 + 1 from rfl, c]
theorem nV {x : Operand} {t : TypeId} {s : ByteArray} (a : P.underlying t = some .string) (b : jP E x = .string s) : lV P E ⟨d, .call ⟨.builtin .len, #[x], #[t]⟩, ty, pos, af, g⟩ W (.int .i64 s.size) W := by
 show (do let d ← resolve (jP E) ⟨.builtin .len, #[x], #[t]⟩ ty; invoke d.target d.args : Sem Next).run P W = _
 simp [resolve, invoke, builtin, Builtin.len_, aT a, b, goInt]
theorem xU {x : Operand} {t e : TypeId} {A : Option Addr} {l c : Nat} (a : P.underlying t = some (.slice e)) (b : jP E x = .slice A l c) : lV P E ⟨d, .call ⟨.builtin .len, #[x], #[t]⟩, ty, pos, af, g⟩ W (.int .i64 l) W := by
 show (do let d ← resolve (jP E) ⟨.builtin .len, #[x], #[t]⟩ ty; invoke d.target d.args : Sem Next).run P W = _
 simp [resolve, invoke, builtin, Builtin.len_, aT a, b, goInt]
theorem lf {α : Type} {R : pj α} {k : Nat} {m : km} {x : Operand} {t e : TypeId} {v : Value} {l : List α} (b : P.underlying t = some (.slice e)) (h : jP E x = v) (a : Sl R k m v l) : lV P E ⟨d, .call ⟨.builtin .len, #[x], #[t]⟩, ty, pos, af, g⟩ W (.int .i64 l.length) W := by
 obtain ⟨A, c, rfl, _⟩ := a
 exact xU b h
theorem Kn {t : TypeId} {x a : Operand} {m : IntKind} {s : ByteArray} {i : Int} {c : UInt8} (k : P.underlying t = some .string) (l : jP E x = .string s) (h : jP E a = .int m i) (b : 0 ≤ i) (j : s[i.toNat]? = some c) :
  lV P E ⟨d, .index t x a, ty, pos, af, g⟩ W (.int .u8 c.toNat) W := by
 show (do pure (.value (← Instr.index t (jP E x) (jP E a))) : Sem Next).run P W = _
 rw [l, h]
 simp [Instr.index, asIntOf, aT k, b, j]
def lp (P : Program) (t : TypeId) (f off : Nat) : Prop := ∀ b o w, (Instr.fieldAt t (.pointer (some ⟨b, o, none⟩)) f).run P w = .ok (.pointer (some ⟨b, o + off, none⟩)) w
theorem jM {t : TypeId} {x : Operand} {f off b o : Nat} (a : lp P t f off) (c : jP E x = .pointer (some ⟨b, o, none⟩)) : lV P E ⟨d, .fieldAddr t x f, ty, pos, af, g⟩ W (.pointer (some ⟨b, o + off, none⟩)) W := by
 show (do pure (.value (← Instr.fieldAt t (jP E x) f)) : Sem Next).run P W = _
 rw [c]; simp [a b o W]
theorem tY {t : TypeId} {x : Operand} {f off : Nat} {v : Value} {ys : List Value} (zs : List Value) (i : lp P t f off) (m : jP E x = v) (l : At μ v ys) (n : (ys.drop off).take zs.length = zs) :
  ∃ c, At μ c zs ∧ ∀ W, lV P E ⟨d, .fieldAddr t x f, ty, pos, af, g⟩ W c W := by
 obtain ⟨b, o, cs, T, fr, rfl, h1, h⟩ := l
 refine ⟨_, ⟨b, o + off, cs, T, fr, rfl, h1, fun j y a => ?_⟩, fun W => jM i m⟩
 have k : j < zs.length := (bG.1 a).1
 have := h (off + j) y (by
  rw [← n, dV k, dO] at a
  exact a)
 rw [ep]
 exact this
theorem mH {x : Operand} {a : Addr} (b : jP E x = .pointer (some a)) : lV P E ⟨d, .nilCheck x, ty, pos, af, g⟩ W (.pointer (some a)) W := by
 unfold lV execOp
 simp [b]
theorem FR {α : Type} {R : pj α} {k : Nat} {t e : TypeId} {x h : Operand} {M : IntKind} {v : Value} {i : Int} {l : List α} {x0 : α} (I : P.underlying t = some (.slice e)) (he : ∀ w, (sizeOf e).run P w = .ok k w) (J : jP E x = v) (D : jP E h = .int M i) (G : Sl R k μ v l) (n : 0 ≤ i) (m : l[i.toNat]? = some x0) :
  ∃ p ys, ys.length = k ∧ R μ ys x0 ∧ At μ p ys ∧ ∀ W, lV P E ⟨d, .indexAddr t x h, ty, pos, af, g⟩ W p W := by
 obtain ⟨A, c, rfl, O, Q, o⟩ := G
 have F : i.toNat < l.length := (bG.1 m).1
 obtain ⟨b, off, cs, T, fr, rfl, q, r⟩ := o (by omega)
 obtain ⟨ys, s, u, a⟩ := r i.toNat x0 m
 refine ⟨.pointer (some ⟨b, off + i.toNat * k, none⟩), ys, s, u, ⟨b, off + i.toNat * k, cs, T, fr, rfl, q, fun j y L => a j y L⟩, fun W => ?_⟩
 show (do pure (.value (← Instr.indexAt t (jP E x) (jP E h))) : Sem Next).run P W = _
 rw [J, D]
 have z : 0 ≤ i ∧ i < (l.length : Int) := ⟨n, by omega⟩
 simp [Instr.indexAt, asIntOf, aT I, he W, z, dJ]
theorem ot {α : Type} {enc : α → List Value} {k : Nat} {t e : TypeId} {x a : Operand} {s : IntKind} {v : Value} {i : Int} {l : List α} {x0 : α} (q : P.underlying t = some (.slice e)) (he : ∀ w, (sizeOf e).run P w = .ok k w) (r : jP E x = v) (m : jP E a = .int s i) (o : Sl (Pl enc) k μ v l) (b : 0 ≤ i) (n : l[i.toNat]? = some x0) :
  ∃ p, At μ p (enc x0) ∧ ∀ W, lV P E ⟨d, .indexAddr t x a, ty, pos, af, g⟩ W p W := by
 obtain ⟨p, ys, h1, c, h, j⟩ := FR (d := d) (ty := ty) (pos := pos) (af := af) (g := g) q he r m o b n
 cases c
 exact ⟨p, h, j⟩
theorem GG (P : Program) {W : World} {b off : Nat} {cs : Array Value} {T : TypeId} {fr : Nat × Nat} (a : W.heap[b]? = some (.cells cs T fr)) (ys : List Value) (d : ∀ j y, ys[j]? = some y → cs[off + j]? = some y) :
  (loadCells ⟨b, off, none⟩ ys.length).run P W = .ok ys.toArray W :=
 gQ W ⟨b, off, none⟩ ys (fun j v c => by rw [dJ, fV W b (off + j) cs T fr a]; exact d j v c)
theorem Ar {W : World} {t : TypeId} {b off : Nat} {cs : Array Value} {T : TypeId} {fr : Nat × Nat} (a : ∀ w, (isAgg t).run P w = .ok true w) (ys : List Value) (c : ∀ w, (sizeOf t).run P w = .ok ys.length w) (d : W.heap[b]? = some (.cells cs T fr)) (g : ∀ j y, ys[j]? = some y → cs[off + j]? = some y) : (Instr.loadAt t (.pointer (some ⟨b, off, none⟩))).run P W = .ok (.agg ys.toArray) W := by
 simp [Instr.loadAt, Instr.sureAddr, loadVar, a W, c W, GG P d ys g]
theorem An {W : World} {t : TypeId} {b off : Nat} {cs : Array Value} {T : TypeId} {fr : Nat × Nat} (a : ∀ w, (isAgg t).run P w = .ok false w) {y : Value} (c : W.heap[b]? = some (.cells cs T fr)) (g : cs[off]? = some y) : (Instr.loadAt t (.pointer (some ⟨b, off, none⟩))).run P W = .ok y W := by
 have d : W.cell? ⟨b, off, none⟩ = some y := by rw [fV W b off cs T fr c]; exact g
 simp [Instr.loadAt, Instr.sureAddr, loadVar, a W, load, Sem.run, d]
theorem jG {t : TypeId} {x : Operand} {a v : Value} (c : jP E x = a) (b : (Instr.loadAt t a).run P W = .ok v W) : lV P E ⟨d, .load t x, ty, pos, af, g⟩ W v W := by
 show (do pure (.value (← Instr.loadAt t (jP E x))) : Sem Next).run P W = _
 rw [c]; simp [b]
def nt (μ : km) (A : List (Nat × Obj)) (W : World) : Prop := (∀ b o, μ b = some o → W.heap[b]? = some o) ∧ ∀ b o, (b, o) ∈ A → W.heap[b]? = some o
theorem ST.has (h : ST dd F w W μ L) : nt μ L W := ⟨h.mem, fun b o a => (h.box b o a).1⟩
theorem nt.sub {μ' : km} {A A' : List (Nat × Obj)} (h : nt μ A W) (d : kf μ' μ) (c : ∀ p, p ∈ A' → p ∈ A) : nt μ' A' W := ⟨fun b o a => h.1 b o (d b o a), fun b o a => h.2 b o (c _ a)⟩
theorem kl {A : List (Nat × Obj)} (hH : nt μ A W) {t : TypeId} {p : Value} {ys : List Value} (hp : At μ p ys) (c : ∀ w, (isAgg t).run P w = .ok true w) (d : ∀ w, (sizeOf t).run P w = .ok ys.length w) :
  (Instr.loadAt t p).run P W = .ok (.agg ys.toArray) W := by
 obtain ⟨b, off, cs, T, fr, rfl, h1, a⟩ := hp
 exact Ar c ys d (hH.1 _ _ h1) a
theorem qO {A : List (Nat × Obj)} (hH : nt μ A W) {t : TypeId} {p y : Value} (hp : At μ p [y]) (c : ∀ w, (isAgg t).run P w = .ok false w) :
  (Instr.loadAt t p).run P W = .ok y W := by
 obtain ⟨b, off, cs, T, fr, rfl, h1, a⟩ := hp
 exact An c (hH.1 _ _ h1) (a 0 y rfl)
theorem jO {A : List (Nat × Obj)} (hH : nt μ A W) {t : TypeId} {b off : Nat} {cs : Array Value} {T : TypeId} {fr : Nat × Nat} (g : (b, Obj.cells cs T fr) ∈ A) (ys : List Value) (i : (cs.toList.drop off).take ys.length = ys) (d : ∀ w, (isAgg t).run P w = .ok true w) (h : ∀ w, (sizeOf t).run P w = .ok ys.length w) : (Instr.loadAt t (.pointer (some ⟨b, off, none⟩))).run P W = .ok (.agg ys.toArray) W :=
 Ar d ys h (hH.2 _ _ g) (fun j y a => by
  have c : j < ys.length := (bG.1 a).1
  rw [← i, dV c, dO] at a
  simpa using a)
theorem jS {A : List (Nat × Obj)} (hH : nt μ A W) {t : TypeId} {b off : Nat} {cs : Array Value} {T : TypeId} {fr : Nat × Nat} (c : (b, Obj.cells cs T fr) ∈ A) {y : Value} (d : cs[off]? = some y) (a : ∀ w, (isAgg t).run P w = .ok false w) : (Instr.loadAt t (.pointer (some ⟨b, off, none⟩))).run P W = .ok y W :=
 An a (hH.2 _ _ c) d
theorem ma {t : TypeId} {a : Array (Nat × Operand)} {b : Array (Nat × Value)} {v : Value} (c : a.map (fun (i, x) => (i, jP E x)) = b) (h : ∀ W, (Instr.build t b).run P W = .ok v W) : lV P E ⟨d, .build t a, ty, pos, af, g⟩ W v W := by
 show (do pure (.value (← Instr.build t (a.map fun (i, x) => (i, jP E x)))) : Sem Next).run P W = _
 rw [c]; simp [h W]
theorem ly {t : TypeId} {z cs : Array Value} {a : Array Field} {b : Array (Nat × Value)} {pl : Array (Nat × Nat)} (g : ∀ w, (zeroValue t).run P w = .ok (.agg z) w) (d : P.underlying t = some (.struct a)) (hp : ∀ w, (a.mapM fun f => do pure (f.offset, ← sizeOf f.type) : Sem (Array (Nat × Nat))).run P w = .ok pl w) (c : Instr.fill (pl[·]?) z b.toList = some cs) (W : World) : (Instr.build t b).run P W = .ok (.agg cs) W := by
 simp only [Instr.build, cE, g W, bN, aT d, Value.cells]
 rw [hp W]
 simp only [bN, c, dq]
end
theorem Cj {α : Type} : ∀ (a : Ask α) (w : World), w.drawn ≤ (w.ask a).2.drawn
 | .done a, w => by simp [World.ask]
 | .ask b range k, w => by
  unfold World.ask
  dsimp only
  split
  ·exact Cj (k 0) w
  ·refine dB (iy w.drawn) ?_
   exact Cj _ { w with drawn := w.drawn + 1 }
theorem Lp (w : World) (c : Sys) : w.drawn ≤ (w.sys c).2.drawn := by
 have h := Cj (Kernel.perform c w.os) w
 unfold World.sys
 generalize w.ask (Kernel.perform c w.os) = r at *
 obtain ⟨⟨a, b⟩, d⟩ := r
 cases a <;> simp at h ⊢ <;> exact h
theorem Fw {p : Program} {w c : World} {a : Addr} {u : TypeId} {k : Addr} {v : Value} {b : Bool} {l : List Addr} (h : w.viewStore p a u k v b = .ok (c, l)) : c.drawn = w.drawn := by
 unfold World.viewStore at h
 simp only [bind, Except.bind, pure, Except.pure] at h
 split at h
 ·cases h
 ·split at h
  ·cases h
  ·split at h
   ·split at h
    ·cases h
    ·split at h
     ·cases h
     ·cases h; rfl
   ·cases h
theorem FU {p : Program} {w c : World} {a : Addr} {v : Value} {b : Bool} {l : List Addr} (h : w.farStore p a v b = .ok (c, l)) : c.drawn = w.drawn := by
 unfold World.farStore at h
 split at h
 ·split at h
  ·rename_i h1; cases h; exact Fw h1
  ·cases h
 ·cases h
theorem nN {α : Type} {p : Program} : ∀ (s : Sem α) (w d : World) (a : α), s.run p w = .ok a d → w.drawn ≤ d.drawn
 | .pure a, w, d, b, h => by simp only [Sem.run] at h; cases h; exact aV _
 | .load m a k, w, d, b, h => by
  simp only [Sem.run] at h
  split at h
  ·exact nN _ _ _ _ h
  ·split at h
   ·exact nN _ _ _ _ h
   ·cases h
 | .store m a v k, w, d, b, h => by
  have key : ∀ (r : Result α) i, r = .ok b d → (r = (match w.cell? a with
    | some _ => if w.frozen? a then .halt i w else k.run p (w.setCell a v)
    | none => match w.farStore p a v (m == .atomic) with
     | .ok (w, _) => k.run p w
     | .error h => .halt h w)) → w.drawn ≤ d.drawn := by
   intro r i j h
   rw [j] at h
   split at h
   ·split at h
    ·cases h
    ·have := nN k _ _ _ h.symm
     simpa [World.setCell] using this
   ·split at h
    ·rename_i h1
     have g := nN k _ _ _ h.symm
     rw [FU h1] at g
     exact g
    ·cases h
  cases v with
  | agg cs => simp only [Sem.run] at h; cases h
  | tuple cs => simp only [Sem.run] at h; cases h
  | _ => exact key _ _ h (by simp only [Sem.run]; rfl)
 | .new o k, w, d, b, h => by simp only [Sem.run] at h; have := nN (k _) _ _ _ h; exact this
 | .shape r k, w, d, b, h => by simp only [Sem.run] at h; exact nN _ _ _ _ h
 | .freeze a n k, w, d, b, h => by
  simp only [Sem.run] at h
  have := nN k _ _ _ h
  unfold World.freeze at this
  split at this <;> exact this
 | .frozen a k, w, d, b, h => by simp only [Sem.run] at h; exact nN _ _ _ _ h
 | .getObj r k, w, d, b, h => by
  simp only [Sem.run] at h
  split at h <;> try (cases h; done)
  exact nN _ _ _ _ h
 | .setObj r o k, w, d, b, h => by
  simp only [Sem.run] at h
  split at h <;> try (cases h; done)
  have := nN k _ _ _ h
  exact this
 | .choose q k, w, d, b, h => by
  simp only [Sem.run] at h
  split at h
  ·exact nN _ _ _ _ h
  ·exact dB (iy _) (nN _ _ _ _ h)
 | .sys c k, w, d, b, h => by
  simp only [Sem.run] at h
  exact dB (Lp w c) (nN _ _ _ _ h)
 | .program k, w, d, b, h => by simp only [Sem.run] at h; exact nN _ _ _ _ h
 | .mark m k, w, d, b, h => by simp only [Sem.run] at h; exact nN k _ _ _ h
 | .halt x, w, d, b, h => by simp only [Sem.run] at h; cases h
end Go.Proofs.YtmlncblocfcmiaaGreat
namespace Go.Proofs.YtmlncblocfcmiaaGreat
open Go.RowKit
variable {dd : Bool}
section
variable {P : Program} {n : Nat} {Q : pU} {E : Nat → Value} {W : World} {ops : Array Oper} {rest : List Oper}
 {d : Option Nat} {ty : TypeId} {pos : String} {af : Array Edge} {g : Option (Nat × Bool)}
 {F : Nat → Prop} {w : World} {μ : km} {L : List (Nat × Obj)}
def mL (P : Program) (E : Nat → Value) (o : Oper) (W : World) (K : Value → World → Prop) : Prop :=
 (∃ v W', (execOp (jP E) o).run P W = .ok (.value v) W' ∧ K v W') ∨ (∃ W', (execOp (jP E) o).run P W = .ok .skip W' ∧ K undef W') ∨
 (∃ f args, (execOp (jP E) o).run P W = .ok (.enter f args) W ∧ Calls P f args W fun e a => ∃ v, e = .returned v ∧ K v a)
theorem mL.mono {o : Oper} {K K' : Value → World → Prop} (h : mL P E o W K) (hk : ∀ v W', K v W' → K' v W') : mL P E o W K' := by
 rcases h with ⟨v, W', h1, a⟩ | ⟨W', h1, a⟩ | ⟨f, args, h1, a⟩
 ·exact .inl ⟨v, W', h1, hk _ _ a⟩
 ·exact .inr (.inl ⟨W', h1, hk _ _ a⟩)
 ·exact .inr (.inr ⟨f, args, h1, dC a (fun _ _ ⟨v, b, c⟩ => ⟨v, b, hk _ _ c⟩)⟩)
theorem Pc {o : Oper} {dd : Nat} (hw : kq n ops E o) (c : o.dst = some dd) (d : dd < n) (h : mL P E o W fun v W' => LW P n ops Q rest (nL E dd v) W') : LW P n ops Q (o :: rest) E W := by
 rcases h with ⟨v, W', h1, b⟩ | ⟨W', h1, b⟩ | ⟨f, args, h1, b⟩
 ·exact Kt hw c d h1 b
 ·intro a ha
  unfold wpList
  rw [aZ (hw.of ha)]
  refine .inl ?_
  unfold Oper.wp
  rw [ha.eval, h1, fZ, c]
  exact b _ (ha.put d _)
 ·exact ML hw c d h1 b
theorem PV {o : Oper} (hw : kq n ops E o) (c : o.dst = none) (h : mL P E o W fun _ W' => LW P n ops Q rest E W') : LW P n ops Q (o :: rest) E W := by
 rcases h with ⟨v, W', h1, b⟩ | ⟨W', h1, b⟩ | ⟨f, args, h1, b⟩
 ·intro a ha
  unfold wpList
  rw [aZ (hw.of ha)]
  refine .inl ?_
  unfold Oper.wp
  rw [ha.eval, h1, fR, c]
  exact b _ (ha.xN _)
 ·exact Md hw c h1 b
 ·intro a ha
  unfold wpList
  rw [aZ (hw.of ha)]
  refine .inl ?_
  unfold Oper.wp
  rw [ha.eval, h1, fS]
  refine dC b ?_
  rintro e g ⟨v, rfl, d⟩
  simp only [c]
  exact d _ (ha.xN _)
theorem kH {K : Value → World → Prop} {t : TypeId} {x : Operand} {v : Value} (a : ST dd F w W μ L) (c : jP E x = v) (h : ∀ W' b, ST dd F w W' μ ((b, .cells v.cells t (0, 0)) :: L) → K (.pointer (some ⟨b, 0, none⟩)) W') : mL P E ⟨d, .box t x, ty, pos, af, g⟩ W K :=
 .inl ⟨.pointer (some ⟨W.heap.size, 0, none⟩), W.alloc (.cells v.cells t (0, 0)), by
   show (do pure (.value (← Instr.box t (jP E x))) : Sem Next).run P W = _
   rw [c]
   simp [Instr.box, newVar, newRow, newObj, Sem.run], h _ _ (a.alloc _)⟩
theorem kv {K : Value → World → Prop} {t : TypeId} {z : Value} (a : ST dd F w W μ L) (c : ∀ w, (zeroValue t).run P w = .ok z w) (h : ∀ W' b, ST dd F w W' μ ((b, .cells z.cells t (0, 0)) :: L) → K (.pointer (some ⟨b, 0, none⟩)) W') : mL P E ⟨d, .alloc t, ty, pos, af, g⟩ W K :=
 .inl ⟨.pointer (some ⟨W.heap.size, 0, none⟩), W.alloc (.cells z.cells t (0, 0)), by
   show (do pure (.value (← Instr.alloc t true (.tuple #[]))) : Sem Next).run P W = _
   simp [Instr.alloc, c W, newVar, newRow, newObj, Sem.run], h _ _ (a.alloc _)⟩
theorem FT {t e : TypeId} {m k : Nat} {z : Value} {c : Array (Nat × Value)} {cs : Array Value} (g : P.underlying t = some (.slice e)) (d : ∀ w, (sizeOf e).run P w = .ok k w) (h : ∀ w, (zeroValue e).run P w = .ok z w) (hm : m * k ≤ 16777216) (a : Instr.fill (fun i => some (i * k, k)) ((Array.range (m * k)).map (fun i => (if m * k = 0 then (#[] : Array Value) else z.cells)[i % (if m * k = 0 then (#[] : Array Value) else z.cells).size]!)) c.toList = some cs) (W : World) :
  (Instr.buildSlice t m c).run P W = .ok (.slice (some ⟨W.heap.size, 0, none⟩) m m) (W.alloc (.cells cs e (0, 0))) := by
 simp only [Instr.buildSlice, cE, aT g, bN, d W]
 rw [aY (by omega)]
 by_cases b : m * k = 0
 ·simp only [b, aW] at a ⊢
  simp only [cE, dq, bN, a]
  simp [newRow, newObj, Sem.run]
 ·simp only [b, aM] at a ⊢
  simp only [cE, h W, dq, bN, a]
  simp [newRow, newObj, Sem.run]
theorem kJ {K : Value → World → Prop} {t e : TypeId} {m : Nat} {c : Array (Nat × Operand)} {j : Array (Nat × Value)} {cs : Array Value} (a : ST dd F w W μ L) (k : c.map (fun (i, x) => (i, jP E x)) = j) (l : ∀ W, (Instr.buildSlice t m j).run P W = .ok (.slice (some ⟨W.heap.size, 0, none⟩) m m) (W.alloc (.cells cs e (0, 0)))) (h : ∀ W' b, ST dd F w W' μ ((b, .cells cs e (0, 0)) :: L) → K (.slice (some ⟨b, 0, none⟩) m m) W') : mL P E ⟨d, .buildSlice t m c, ty, pos, af, g⟩ W K :=
 .inl ⟨.slice (some ⟨W.heap.size, 0, none⟩) m m, W.alloc (.cells cs e (0, 0)), by
   show (do pure (.value (← Instr.buildSlice t m (c.map fun (i, x) => (i, jP E x)))) : Sem Next).run P W = _
   rw [k]
   simp [l W], h _ _ (a.alloc _)⟩
theorem ST.store {A B : List (Nat × Obj)} {b : Nat} {cs : Array Value} {t : TypeId} (c : ST dd F w W μ (A ++ (b, .cells cs t (0, 0)) :: B)) (a : Array Value) :
  ST dd F w (W.setRow b a) μ (A ++ (b, .cells a t (0, 0)) :: B) := by
 have d := (c.box b _ (by simp : (b, Obj.cells cs t (0, 0)) ∈ A ++ (b, .cells cs t (0, 0)) :: B)).1
 refine c.put ⟨rfl, rfl, rfl, aV _, by simp [World.setRow]⟩ (fun k hk => ?_) (setRow_heap W b cs a t (0, 0) d)
 simp only [World.setRow, dQ]
 rw [aY (fun e => hk e.symm)]
theorem A0 (P : Program) {W : World} {t : TypeId} {b off : Nat} {cs : Array Value} {T : TypeId} (v : Value) (a : ∀ w, (sizeOf t).run P w = .ok v.cells.size w) (h1 : ∀ u ∈ v.cells.toList, u.oneCell' = true) (c : W.heap[b]? = some (.cells cs T (0, 0))) (d : off + v.cells.size ≤ cs.size) : (Instr.storeAt t (.pointer (some ⟨b, off, none⟩)) v).run P W = .ok () (W.setRow b (cs.toList.take off ++ v.cells.toList ++ cs.toList.drop (off + v.cells.size)).toArray) := by
 have := iz (P := P) b off T v.cells.toList 0 cs W c (by simpa using d) h1
 simp [Instr.storeAt, Instr.sureAddr, storeVar, a W]
 simpa using this
theorem NS {K : Value → World → Prop} (A : List (Nat × Obj)) {B : List (Nat × Obj)} {t : TypeId} {x y : Operand} (v : Value) {b off : Nat} {cs : Array Value} {T : TypeId} (a : Array Value) (c : ST dd F w W μ (A ++ (b, .cells cs T (0, 0)) :: B)) (m : jP E x = .pointer (some ⟨b, off, none⟩)) (n : jP E y = v) (i : ∀ w, (sizeOf t).run P w = .ok v.cells.size w) (h1 : ∀ u ∈ v.cells.toList, u.oneCell' = true) (l : off + v.cells.size ≤ cs.size) (k : (cs.toList.take off ++ v.cells.toList ++ cs.toList.drop (off + v.cells.size)).toArray = a) (h : ∀ W', ST dd F w W' μ (A ++ (b, .cells a T (0, 0)) :: B) → K undef W') : mL P E ⟨d, .store t x y, ty, pos, af, g⟩ W K :=
 .inr (.inl ⟨W.setRow b a, by
   show (do Instr.storeAt t (jP E x) (jP E y); pure .skip : Sem Next).run P W = _
   have j := (c.box b _ (by simp : (b, Obj.cells cs T (0, 0)) ∈ A ++ (b, .cells cs T (0, 0)) :: B)).1
   rw [m, n]
   simp only [cE, A0 P v i h1 j l, k, bN, dq], h _ (c.store a)⟩)
def ki (dd : Bool) (P : Program) (f : FuncId) (args : List Value) (w : World) (v : Value) : Prop := Calls P f args.toArray w fun e a => e = .returned v ∧ Ex dd w a
theorem Ll {f : FuncId} {fv : Operand} {ax : Array Operand} {ats : Array TypeId} {caps args : Array Value} (a : jP E fv = .func (.func f) #[] caps) (he : ∀ args w, (callFunc f args).run P w = .ok (.enter f args) w) (ha : ax.map (jP E) ++ caps = args) :
  (execOp (jP E) ⟨d, .call ⟨.value fv, ax, ats⟩, ty, pos, af, g⟩).run P W = .ok (.enter f args) W := by
 show (do let d ← resolve (jP E) ⟨.value fv, ax, ats⟩ ty; invoke d.target d.args : Sem Next).run P W = _
 rw [← ha]
 simp only [resolve, a, Deferred.ofValue, cE, dq, bN, invoke]
 simp [he]
theorem Dm {K : Value → World → Prop} {f : FuncId} {fv : Operand} {ax : Array Operand} {ats : Array TypeId} {caps args : Array Value} (a : jP E fv = .func (.func f) #[] caps) (he : ∀ args w, (callFunc f args).run P w = .ok (.enter f args) w) (ha : ax.map (jP E) ++ caps = args) (h : Calls P f args W fun e b => ∃ v, e = .returned v ∧ K v b) : mL P E ⟨d, .call ⟨.value fv, ax, ats⟩, ty, pos, af, g⟩ W K :=
 .inr (.inr ⟨f, args, Ll a he ha, h⟩)
theorem IW {K : Value → World → Prop} {f : FuncId} {fv : Operand} {ax : Array Operand} {ats : Array TypeId} {args : List Value} {v : Value} (a : ST dd F w W μ L) (i : jP E fv = .func (.func f) #[] #[]) (he : ∀ args w, (callFunc f args).run P w = .ok (.enter f args) w) (ha : (ax.map (jP E) ++ (#[] : Array Value)) = args.toArray) (c : ki dd P f args W v) (h : ∀ W', ST dd F w W' μ L → K v W') : mL P E ⟨d, .call ⟨.value fv, ax, ats⟩, ty, pos, af, g⟩ W K :=
 Dm i he ha (dC c (fun _ _ ⟨h1, b⟩ => ⟨v, h1, h _ (a.E8 b)⟩))
def kk {α : Type} (e : TypeId) (enc : α → List Value) (k : Nat) (v : Value) (l : List α) (R : List (Nat × Obj)) : Prop :=
 (v = .slice none 0 0 ∧ l = [] ∧ R = []) ∨
 ∃ g cap a, v = .slice (some ⟨g, 0, none⟩) l.length cap ∧ R = [(g, .cells a e (0, 0))] ∧ l.length ≤ cap ∧ cap ≤ maxLen ∧ a.size = cap * k ∧ a.toList.take (l.length * k) = (l.map enc).flatten
theorem pt {α : Type} {enc : α → List Value} {k : Nat} (hk : ∀ x, (enc x).length = k) : ∀ l : List α, (l.map enc).flatten.length = l.length * k
 | [] => by simp
 | x :: l => by simp [pt hk l, hk x, cN, Nat.add_comm]
theorem uX {α : Type} {enc : α → List Value} {k : Nat} (hk : ∀ x, (enc x).length = k) : ∀ (l : List α) (i : Nat) (x : α), l[i]? = some x → ∀ j y, (enc x)[j]? = some y → (l.map enc).flatten[i * k + j]? = some y
 | [], i, x, h => by cases h
 | z :: l, 0, x, h => by
  simp at h; subst h
  intro j y a
  have b : j < (enc z).length := (bG.1 a).1
  simp [fC, b]
  rw [cW b] at a
  simpa using a
 | z :: l, i + 1, x, h => by
  intro j y a
  have := uX hk l i x (by simpa using h) j y a
  simp only [bH, bK]
  rw [eK (by rw [hk z]; have := Nat.le_mul_of_pos_left k (Nat.succ_pos i); simp [cN] at *; omega), hk z]
  rw [show (i + 1) * k + j - k = i * k + j by rw [cN]; omega]
  exact this
theorem Es {α : Type} {enc : α → List Value} {k : Nat} (hk : ∀ x, (enc x).length = k) : ∀ (l : List α) (q : Nat) (y : Value), (l.map enc).flatten[q]? = some y → ∃ i x j, l[i]? = some x ∧ (enc x)[j]? = some y ∧ q = i * k + j
 | [], q, y, h => by simp at h
 | z :: l, q, y, h => by
  simp only [bH, bK] at h
  by_cases b : q < k
  ·rw [fL (by rw [hk]; exact b)] at h
   exact ⟨0, z, q, rfl, h, by simp⟩
  ·rw [eK (by rw [hk]; omega), hk] at h
   obtain ⟨i, x, j, h1, a, c⟩ := Es hk l (q - k) y h
   exact ⟨i + 1, x, j, by simpa using h1, a, by rw [cN]; omega⟩
theorem kk.nil {α : Type} (e : TypeId) (enc : α → List Value) (k : Nat) : kk e enc k (.slice none 0 0) [] [] := .inl ⟨rfl, rfl, rfl⟩
theorem kk.sl {α : Type} {e : TypeId} {enc : α → List Value} {k : Nat} {v : Value} {l : List α} {R : List (Nat × Obj)} {m : km} (h : kk e enc k v l R) (hk : ∀ x, (enc x).length = k) (hm : ∀ b o, (b, o) ∈ R → m b = some o) : Sl (Pl enc) k m v l := by
 rcases h with ⟨rfl, rfl, rfl⟩ | ⟨g, cap, a, rfl, rfl, h1, d, s, n⟩
 ·exact Sl.nil _ _ _
 ·refine ⟨_, cap, rfl, h1, d, fun _ => ⟨g, 0, a, e, (0, 0), rfl, hm _ _ (by simp), fun i x q => ⟨enc x, hk x, rfl, fun j y r => ?_⟩⟩⟩
  have := uX hk l i x q j y r
  rw [← n] at this
  have c : i * k + j < l.length * k := by
   have := (bG.1 this).1
   simp at this; omega
  rw [dV c] at this
  simpa using this
theorem kk.len {α : Type} {e : TypeId} {enc : α → List Value} {k : Nat} {v : Value} {l : List α} {R : List (Nat × Obj)} (h : kk e enc k v l R) : l.length ≤ 9223372036854775807 := by
 rcases h with ⟨rfl, rfl, rfl⟩ | ⟨g, cap, a, rfl, rfl, h1, b, c, d⟩
 ·simp
 ·unfold maxLen at b; omega
theorem kk.fr {α : Type} {e : TypeId} {enc : α → List Value} {k : Nat} {v : Value} {l : List α} {R X Y : List (Nat × Obj)} (h : kk e enc k v l R) (a : ST dd kQ w W μ (X ++ (R ++ Y))) : Fr w.heap.size v := by
 rcases h with ⟨rfl, rfl, rfl⟩ | ⟨g, cap, d, rfl, rfl, h1, i, j, m⟩
 ·exact Fr.nil _
 ·intro b c
  simp [Value.ownBlock] at c
  subst c
  rcases (a.box g _ (by simp; exact .inr (.inl rfl))).2.2 with h | h
  ·exact h
  ·exact h.elim
theorem kk.lit {α : Type} {e : TypeId} {enc : α → List Value} {k b m : Nat} {l : List α} {cs : Array Value} (hm : l.length = m) (c : m ≤ maxLen) (d : cs.toList = (l.map enc).flatten) (a : cs.size = m * k) : kk e enc k (.slice (some ⟨b, 0, none⟩) m m) l [(b, .cells cs e (0, 0))] := by
 subst hm
 refine .inr ⟨b, _, cs, rfl, rfl, aV _, c, a, ?_⟩
 rw [← d, ← a]
 exact dr (by rw [dl]; exact aV _)
def mG {α : Type} (a : Nat) (l m : List α) : Option (List α) := if (l.length + m.length) * a ≤ 140737488355328 ∧ l.length + m.length ≤ maxLen then some (l ++ m) else none
theorem HB {K : Value → World → Prop} {α : Type} {e t : TypeId} {enc : α → List Value} {k ab : Nat} {z v vs : Value} {l m r : List α} {R : List (Nat × Obj)} (X : List (Nat × Obj)) {Y : List (Nat × Obj)} {x y : Operand} {i : TypeInfo} (s : ST dd F w W μ (X ++ (R ++ Y))) (hk : ∀ x, (enc x).length = k) (b3 : 0 < k) (h1 : ∀ x, ∀ u ∈ enc x, u.oneCell' = true) (ht : P.underlying t = some (.slice e)) (hi : P.info? e = some i) (hz : i.zero = some z) (b7 : z.cells.size = k) (b4 : i.size = k) (b1 : i.bytes = ab) (hx : jP E x = v) (hy : jP E y = vs) (hR : kk e enc k v l R) (hs : Sl (Pl enc) k (hp W) vs m) (n : mG ab l m = some r) (h : ∀ W' v' R', ST dd F w W' μ (X ++ (R' ++ Y)) → kk e enc k v' r R' → K v' W') : mL P E ⟨d, .call ⟨.builtin .append, #[x, y], #[t, t]⟩, ty, pos, af, g⟩ W K := by
 unfold mG at n
 split at n
 case isFalse => cases n
 rename_i aj
 cases n
 have aa : ∀ (V : Value) (W' : World), (Builtin.append_ #[t, t] ty #[v, vs]).run P W = .ok V W' → (execOp (jP E) ⟨d, .call ⟨.builtin .append, #[x, y], #[t, t]⟩, ty, pos, af, g⟩).run P W = .ok (.value V) W' := by
  intro V W' hV
  show (do let d ← resolve (jP E) ⟨.builtin .append, #[x, y], #[t, t]⟩ ty; invoke d.target d.args : Sem Next).run P W = _
  simp [resolve, invoke, builtin, hx, hy, hV]
 obtain ⟨A, c, rfl, bc, bd, b2⟩ := hs
 have a8 : W.ownsRow 0 e k v l.length (l.map enc).flatten := by
  refine ⟨pt hk l, ?_⟩
  rcases hR with ⟨rfl, rfl, rfl⟩ | ⟨g, cap, J, rfl, rfl, h1, h2, h3, h4⟩
  ·exact .inl ⟨rfl, rfl⟩
  ·exact .inr ⟨g, cap, J, rfl, ev _, (s.box g _ (by simp)).1, h1, h2, h3, h4⟩
 have av : m.length = 0 ∨ ∃ ad, A = some ad ∧ ∀ j u, (m.map enc).flatten[j]? = some u → W.cell? (ad.add j) = some u := by
  rcases ek m.length with O | O
  ·exact .inl O
  ·obtain ⟨b, off, cs, T, fr, rfl, h6, h7⟩ := b2 O
   refine .inr ⟨⟨b, off, none⟩, rfl, fun j u hu => ?_⟩
   obtain ⟨i, x, q, h8, h9, rfl⟩ := Es hk m j u hu
   obtain ⟨ys, _, ay, az⟩ := h7 i x h8
   cases ay
   rw [dJ, fV W b (off + (i * k + q)) cs T fr h6, ← ep]
   exact az q u h9
 have au : ∀ u ∈ (m.map enc).flatten, u.oneCell' = true := by
  intro u hu
  obtain ⟨ys, b6, b5⟩ := iW.1 hu
  obtain ⟨x, _, rfl⟩ := bB.1 b6
  exact h1 x u b5
 by_cases ap : m.length = 0
 ·have hm : m = [] := aU ap
  subst hm
  have hr : (Builtin.append_ #[t, t] ty #[v, .slice A 0 c]).run P W = .ok v W := by
   rcases a8.2 with ⟨rfl, O⟩ | ⟨g, cap, J, rfl, _, hg, aq, _, bf, _⟩
   ·cases A with
    | none => simp [Builtin.append_, aT ht, sizeOf, typeInfo, hi, Builtin.lenOf, Builtin.firstCells]
    | some ad => simp [Builtin.append_, aT ht, sizeOf, typeInfo, hi, Builtin.lenOf, Builtin.firstCells, loadCells, loadCellsFrom]
   ·cases A with
    | none => simp [Builtin.append_, aT ht, sizeOf, typeInfo, hi, Builtin.lenOf, Builtin.firstCells, aq, storeCells]
    | some ad => simp [Builtin.append_, aT ht, sizeOf, typeInfo, hi, Builtin.lenOf, Builtin.firstCells, loadCells, loadCellsFrom, aq, storeCells]
  exact .inl ⟨v, W, aa _ _ (by simpa using hr), by simpa using h W v R s (by simpa using hR)⟩
 rcases av with O | ⟨ad, rfl, a1⟩
 ·exact absurd O ap
 obtain ⟨v', W', hr, ah, D, ba, M⟩ := run_append_own_at (P := P) W 0 t ty e i z k ab ht hi hz b4 b1 b7 b3 v l.length (l.map enc).flatten a8 ad m.length c (m.map enc).flatten (pt hk m) a1 au aj.2 aj.1 (ev _)
 have ae := nN _ _ _ _ hr
 refine .inl ⟨v', W', aa _ _ hr, ?_⟩
 have hlen : (l ++ m).length = l.length + m.length := by simp
 rcases ah.2 with ⟨_, O⟩ | ⟨U, a6, a7, rfl, _, ag, b9, ak, an, aw⟩
 ·omega
 have ai : kk e enc k (.slice (some ⟨U, 0, none⟩) (l.length + m.length) a6) (l ++ m) [(U, .cells a7 e (0, 0))] :=
  .inr ⟨U, a6, a7, by rw [hlen], rfl, by omega, ak, an, by rw [hlen, aw]; simp⟩
 refine h W' _ _ ?_ ai
 have ar := s.nd
 rcases hR with ⟨rfl, rfl, rfl⟩ | ⟨g, cap, J, rfl, rfl, q1, q2, q3, q4⟩
 ·-- nil: a new block
  have Z : W.heap.size ≤ U := by
   rcases M with h | h <;> simp [Value.ownBlock] at h
   omega
  have hex : Ex dd W W' := ⟨D.os, D.tape, D.output, su.of ae, D.size, fun b n => D.block b n (by simp [Value.ownBlock])⟩
  have h1 := s.E8 hex
  refine ⟨h1.os, h1.tape, h1.output, h1.drawn, h1.size, h1.mh, h1.mem, fun b o n => ?_, ?_⟩
  ·simp only [aR, bM] at n
   rcases n with n | n | n
   ·exact h1.box b o (by simp [n])
   ·cases n
    refine ⟨ag, ?_, .inl (dB s.size Z)⟩
    cases hm : μ U with
    | none => rfl
    | some x => have := s.BL hm; omega
   ·exact h1.box b o (by simp [n])
  ·simp only [bO, cD, bH, fx] at ar ⊢
   refine (fO eJ).2 (dn.2 ⟨fun hm => ?_, ar⟩)
   rw [← cD] at hm
   obtain ⟨⟨b, o⟩, n, L⟩ := bB.1 hm
   have b0 : (b, o) ∈ X ++ ([] ++ Y) := by simpa using n
   have := s.Dg b0
   simp at L
   omega
 ·by_cases ao : U = g
  ·subst ao
   have O : ST dd F w W μ (X ++ (U, Obj.cells J e (0, 0)) :: Y) := by simpa using s
   have hold : ∀ b, b < W.heap.size → b ≠ U → W'.heap[b]? = W.heap[b]? := fun b n I => D.block b n (by simp [Value.ownBlock]; exact I)
   have G := O.nd
   simp only [cD, bH] at G
   have I : ∀ b o, (b, o) ∈ X ++ Y → b ≠ U := fun b o n L => by
    subst L
    rcases aR.1 n with n | n
    ·exact (bV.1 G).2.2 b (bB.2 ⟨_, n, rfl⟩) b (by simp) rfl
    ·exact (dn.1 (bV.1 G).2.1).1 (bB.2 ⟨_, n, rfl⟩)
   have Q := O.box U (Obj.cells J e (0, 0)) (by simp)
   refine ⟨D.os.trans s.os, D.tape.trans s.tape, D.output.trans s.output, su.trans s.drawn (su.of ae), dB s.size D.size, fun b n hF => ?_, fun b o n => ?_, fun b o n => ?_, by simpa using G⟩
   ·rw [hold b (dZ n s.size) (fun L => by subst L; rcases Q.2.2 with h | h; omega; exact hF h)]
    exact s.mh b n hF
   ·rw [hold b (s.BL n) (fun L => by subst L; rw [Q.2.1] at n; cases n)]
    exact s.mem b o n
   ·simp only [aR, bM] at n
    rcases n with n | n | n
    ·obtain ⟨r1, r2⟩ := s.box b o (by simp [n])
     exact ⟨by rw [hold b (ny r1) (I b o (by simp [n]))]; exact r1, r2⟩
    ·cases n; exact ⟨ag, Q.2⟩
    ·obtain ⟨r1, r2⟩ := s.box b o (by simp [n])
     exact ⟨by rw [hold b (ny r1) (I b o (by simp [n]))]; exact r1, r2⟩
  ·have Z : W.heap.size ≤ U := by
    rcases M with h | h <;> simp [Value.ownBlock] at h
    ·exact absurd h ao
    ·omega
   have O : ST dd F w W μ (X ++ (g, Obj.cells J e (0, 0)) :: Y) := by simpa using s
   have Q := O.box g (Obj.cells J e (0, 0)) (by simp)
   have G := O.nd
   simp only [cD, bH] at G
   have I : ∀ b o, (b, o) ∈ X ++ Y → b ≠ g := fun b o n L => by
    subst L
    rcases aR.1 n with n | n
    ·exact (bV.1 G).2.2 b (bB.2 ⟨_, n, rfl⟩) b (by simp) rfl
    ·exact (dn.1 (bV.1 G).2.1).1 (bB.2 ⟨_, n, rfl⟩)
   have hold : ∀ b, b < W.heap.size → b ≠ g → W'.heap[b]? = W.heap[b]? := fun b n I => D.block b n (by simp [Value.ownBlock]; exact I)
   refine ⟨D.os.trans s.os, D.tape.trans s.tape, D.output.trans s.output, su.trans s.drawn (su.of ae), dB s.size D.size, fun b n hF => ?_, fun b o n => ?_, fun b o n => ?_, ?_⟩
   ·rw [hold b (dZ n s.size) (fun L => by subst L; rcases Q.2.2 with h | h; omega; exact hF h)]
    exact s.mh b n hF
   ·rw [hold b (s.BL n) (fun L => by subst L; rw [Q.2.1] at n; cases n)]
    exact s.mem b o n
   ·simp only [aR, bM] at n
    rcases n with n | n | n
    ·obtain ⟨r1, r2⟩ := s.box b o (by simp [n])
     exact ⟨by rw [hold b (ny r1) (I b o (by simp [n]))]; exact r1, r2⟩
    ·cases n
     refine ⟨ag, ?_, .inl (dB s.size Z)⟩
     cases hm : μ U with
     | none => rfl
     | some x => have := s.BL hm; omega
    ·obtain ⟨r1, r2⟩ := s.box b o (by simp [n])
     exact ⟨by rw [hold b (ny r1) (I b o (by simp [n]))]; exact r1, r2⟩
   ·have aE : (X.map (·.1) ++ Y.map (·.1)).Nodup := (dn.1 ((fO eJ).1 G)).2
    simp only [cD, bH, fx]
    refine (fO eJ).2 (dn.2 ⟨fun hm => ?_, aE⟩)
    rw [← cD] at hm
    obtain ⟨⟨b, o⟩, n, L⟩ := bB.1 hm
    have := s.Dg (b := b) (o := o) (by rcases aR.1 n with h | h <;> simp [h])
    simp at L
    omega
end
end Go.Proofs.YtmlncblocfcmiaaGreat
namespace Go.Proofs.YtmlncblocfcmiaaGreat
open Go.RowKit
def BG (l : List Value) : Nat → Value := fun t => l.getD t undef
def xz (P : Program) (fn : Func) (R : Ending → World → Prop) : pU
 | .normal, E, W | .ret, E, W => ∃ v, (∀ tmps : Array Value, (∀ t, tmps.getD t undef = E t) → (results fn tmps).run P W = .ok v W) ∧ R (.returned v) W
 | _, _, _ => False
theorem xZ {P : Program} {f : FuncId} {fn : Func} {c : Code} {args : List Value} {w : World} {R : Ending → World → Prop} {n : Nat} (o : P.funcs[f]? = some fn) (m : fn.body = some c) (q : fn.ntmps = n) (ha : args.length ≤ n) (h : CW P n c (xz P fn R) (BG args) w) : Calls P f args.toArray w R := by
 refine calls_of_wp o m ?_
 have i : Ag n { tmps := args.toArray ++ Array.replicate (fn.ntmps - args.toArray.size) undef, defers := [] } (BG args) := by
  refine ⟨by simp; omega, rfl, fun t => ?_⟩
  simp only [BG, eA, List.getD_eq_getElem?_getD, Array.getElem?_append, Array.getElem?_replicate, dK, List.getElem?_toArray]
  by_cases k : t < args.length
  ·rw [aZ k]
  ·rw [aY k, fy (by omega)]
   split <;> simp
 refine wp_mono (h _ i) (fun e a r d => ?_)
 cases e with
 | normal =>
  obtain ⟨E, b, v, j, g⟩ := d
  exact ⟨b.2.1, v, j _ b.2.2, g⟩
 | ret =>
  obtain ⟨E, b, v, j, g⟩ := d
  exact ⟨b.2.1, v, j _ b.2.2, g⟩
 | exit id => obtain ⟨E, b, h⟩ := d; exact h.elim
 | goto l => obtain ⟨E, b, h⟩ := d; exact h.elim
 | panic c => exact d.elim
 | outgrown => exact d.elim
section
variable {P : Program} {fn : Func} {R : Ending → World → Prop} {E : Nat → Value} {W : World}
theorem lq {r : Tmp} {v : Value} (a : fn.results = #[.tmp r]) (c : E r = v) (h : R (.returned v) W) : xz P fn R .ret E W :=
 ⟨v, fun tmps b => by rw [results_tmp a, b, c], h⟩
theorem Dd {r s : Tmp} {v u : Value} (b : fn.results = #[.tmp r, .tmp s]) (c : E r = v) (hu : E s = u) (h : R (.returned (.tuple #[v, u])) W) : xz P fn R .ret E W :=
 ⟨.tuple #[v, u], fun tmps a => by rw [results_tmp2 b, a, a, c, hu], h⟩
theorem ow (a : fn.results = #[]) (h : R (.returned (.tuple #[])) W) : xz P fn R .ret E W :=
 ⟨.tuple #[], fun tmps _ => by rw [results_none a], h⟩
theorem pc {r : Tmp} {t : TypeId} {a : Addr} {v : Value} (b : fn.results = #[.cell r t]) (g : E r = .pointer (some a)) (d : (Instr.loadAt t (.pointer (some a))).run P W = .ok v W) (h : R (.returned v) W) : xz P fn R .ret E W :=
 ⟨v, fun tmps c => by
  have h1 : (loadVar t a).run P W = .ok v W := by simpa [Instr.loadAt, Instr.sureAddr] using d
  simp [results, b, c, g, asAddr, h1], h⟩
theorem pM (h : xz P fn R .ret E W) : xz P fn R .normal E W := h
end
section
variable {Q : pU} {E : Nat → Value} {W : World} {K : (Nat → Value) → World → Prop} {id j : Nat}
theorem kF (h : Q .normal E W) : vn id Q .normal E W := h
theorem mn (h : Q .ret E W) : vn id Q .ret E W := h
theorem rf (h : Q .normal E W) : vn id Q (.exit id) E W := by simp [vn]; exact h
theorem O3 (a : (j = id) = False) (h : Q (.exit j) E W) : vn id Q (.exit j) E W := by simp only [vn, a, aM]; exact h
theorem jQ (h : K E W) : pS K Q .normal E W := h
theorem kI (h : Q .ret E W) : pS K Q .ret E W := h
theorem mI (h : Q (.exit j) E W) : pS K Q (.exit j) E W := h
end
theorem KA {i N : Nat} (b : i < N) (a : N ≤ 9223372036854775807) : IntKind.i64.wrap ((i : Int) + 1) = ((i + 1 : Nat) : Int) := by
 rw [IntWalk.i64_in _ (by omega)]
 omega
theorem li {P : Program} {n : Nat} {Q : pU} {E : Nat → Value} {W : World} {g s U Y o q A u : Nat} {t1 t2 t3 t4 t5 t6 t7 : TypeId} {O R T : String} {f1 f2 f3 : Array Edge} {body : Code} (I : Nat → (Nat → Value) → World → Prop) (N : Nat) (J : N ≤ 9223372036854775807) (D : I 0 E W) (L : o < n) (M : u < n) (z : q < n) (G : ∀ i E W, I i E W → E q = .int .i64 (i : Nat) ∧ E A = .int .i64 (N : Nat)) (round : ∀ i E W, i < N → I i E W → CW P n (.block s body) (pS (fun E' W' => E' q = .int .i64 (i : Nat) ∧ I (i + 1) (nL (nL E' u (.int .i64 ((i + 1 : Nat) : Int))) q (.int .i64 ((i + 1 : Nat) : Int))) W') (vn g Q)) (nL E o (.bool true)) W) (done : ∀ E W, I N E W → Q .normal (nL E o (.bool false)) W) :
  CW P n (.block g (.loop (.seq (.region U #[⟨some o, .binOp .lss t1 (.tmp q) (.tmp A) t2, t3, O, f1, none⟩] false)
   (.seq (.cond (.tmp o) .skip (.exit g)) (.seq (.block s body)
    (.region Y #[⟨some u, .binOp .add t4 (.tmp q) (.const (.int .i64 1)) t5, t6, R, f2, none⟩, ⟨some q, .move (.tmp u), t7, T, f3, none⟩] false)))))) Q E W := by
 refine lQ (np (fun m E W => ∃ i, i ≤ N ∧ m = N - i ∧ I i E W) N ⟨0, ev _, by omega, D⟩ ?_)
 rintro m E W ⟨i, Z, rfl, d⟩
 obtain ⟨w, x⟩ := G i E W d
 refine jX (jW (Fz (.inl rfl) rfl L (kL w x rfl) (ky ?_)))
 refine jQ (jX ?_)
 have t : nL E o (.bool (decide ((i : Int) < (N : Int)))) o = .bool (decide ((i : Int) < (N : Int))) := by simp [nL]
 by_cases r : i < N
 ·have y : decide ((i : Int) < (N : Int)) = true := by simp; omega
  rw [y] at t ⊢
  refine sV t (ll (jQ (jX ?_)))
  refine FA (round i E W r d) (fun e E' W' h => ?_)
  cases e with
  | normal =>
   obtain ⟨h1, F⟩ := h
   refine jQ ?_
   have hw : IntKind.i64.wrap ((i : Int) + 1) = ((i + 1 : Nat) : Int) := KA r J
   refine jW (Fz (v := .int .i64 ((i + 1 : Nat) : Int)) (.inl rfl) rfl M (kL (k := .i64) (a := (i : Int)) (b := 1) h1 rfl (by simp only [GY, hw])) ?_)
   refine Fz (v := .int .i64 ((i + 1 : Nat) : Int)) (.inl rfl) rfl z (jN (by simp [jP, nL])) (ky ?_)
   exact jQ ⟨N - (i + 1), by omega, i + 1, by omega, rfl, F⟩
  | exit j => exact h
  | goto l => exact h
  | ret => exact h
  | panic c => exact h
  | outgrown => exact h
 ·have y : decide ((i : Int) < (N : Int)) = false := by simp; omega
  rw [y] at t ⊢
  obtain rfl : i = N := by omega
  refine oS t (mZ (mI (mI (rf ?_))))
  exact done E W d
theorem KT {P : Program} {n : Nat} {x : Code} {Q : pU} {K : (Nat → Value) → World → Prop} {E : Nat → Value} {W : World} (J : (Nat → Value) → World → Prop) (h : CW P n x (pS J Q) E W) (k : ∀ E W, J E W → K E W) : CW P n x (pS K Q) E W :=
 FA h (fun e E W h => by cases e <;> first | exact k E W h | exact h)
theorem O2 {α : Type} {c : Bool} {x y r : α} (a : c = true) (h : (if c = true then x else y) = r) : x = r := by rw [aZ a] at h; exact h
theorem ON {α : Type} {c : Bool} {x y r : α} (a : c = false) (h : (if c = true then x else y) = r) : y = r := by rw [aY (by rw [a]; decide)] at h; exact h
theorem bind_some {α β : Type} {o : Option α} {f : α → Option β} {r : β} (h : o.bind f = some r) : ∃ y, o = some y ∧ f y = some r := by
 cases o with
 | none => cases h
 | some y => exact ⟨y, rfl, h⟩
theorem Ju (b : Bool) : b = true ∨ b = false := by cases b <;> simp
theorem kP {α : Type} {l : List α} {i : Nat} (h : i < l.length) : ∃ x xs, l.drop i = x :: xs ∧ l[i]? = some x ∧ l.drop (i + 1) = xs := by
 cases a : l.drop i with
 | nil => have := aX List.length a; simp at this; omega
 | cons x xs => exact ⟨x, xs, rfl, by rw [← List.head?_drop, a]; rfl, by rw [← List.drop_drop, a]; rfl⟩
theorem CB {P : Program} {W : World} (d : Nat) (xs ys : Array Value) : (Op.eqFields d xs ys []).run P W = .ok true W := by simp [Op.eqFields]
theorem qp {P : Program} {W : World} {d : Nat} {xs ys : Array Value} {f : Field} {c : List Field} {a b : Value} {r s : Bool} (i : f.name ≠ "_") (ha : (part f.type xs f.offset).run P W = .ok a W) (g : (part f.type ys f.offset).run P W = .ok b W) (he : (Op.equalIn d f.type a b).run P W = .ok r W) (h : (Op.eqFields d xs ys c).run P W = .ok s W) : (Op.eqFields d xs ys (f :: c)).run P W = .ok (r && s) W := by
 simp only [Op.eqFields, ne_eq, i, not_false_eq_true, aW, cE, ha, g, he, bN]
 cases r <;> simp [h]
theorem uk {P : Program} {W : World} {t : TypeId} {k : Nat} {cs : Array Value} {off : Nat} {v : Array Value} (a : ∀ w, (isAgg t).run P w = .ok true w) (b : ∀ w, (sizeOf t).run P w = .ok k w) (c : cs.extract off (off + k) = v) : (part t cs off).run P W = .ok (.agg v) W := by
 simp [part, a W, b W, c]
theorem nm {P : Program} {W : World} {t : TypeId} {cs : Array Value} {off : Nat} {v : Value} (a : ∀ w, (isAgg t).run P w = .ok false w) (b : cs[off]? = some v) : (part t cs off).run P W = .ok v W := by
 simp [part, a W, b]
def lh (a b : ByteArray) : Bool := a.toList == b.toList
theorem Nd {P : Program} {t : TypeId} (c : P.underlying t = some .string) (d : Nat) (a b : ByteArray) (W : World) : (Op.equalIn (d + 1) t (.string a) (.string b)).run P W = .ok (lh a b) W := run_equalIn_string W d t a b c
theorem QM {P : Program} {t : TypeId} {k : IntKind} (c : P.underlying t = some (.int k)) (d : Nat) (a b : Int) (W : World) : (Op.equalIn (d + 1) t (.int k a) (.int k b)).run P W = .ok (a == b) W := run_equalIn_int W d t k k a b c
theorem oQ {P : Program} {op : BinOp} {t : TypeId} {x y : Operand} {a b : Array Value} (c : P.eqGuardType P.depth t = false) (W : World) : (eqGuard op t x y (.agg a) (.agg b)).run P W = .ok () W := by
 cases op <;> simp [eqGuard] <;> (intro h; rw [c] at h; cases h)
theorem tR {P : Program} {t : TypeId} {a b : Array Value} {r : Bool} (h : ∀ W, (Op.equalIn Op.maxDepth t (.agg a) (.agg b)).run P W = .ok r W) (W : World) : (binOp .eql t (.agg a) (.agg b)).run P W = .ok (.bool r) W := by
 simp [binOp, Op.equal, h W]
theorem Dx {P : Program} {t : TypeId} {a b : Array Value} {r : Bool} (h : ∀ W, (Op.equalIn Op.maxDepth t (.agg a) (.agg b)).run P W = .ok r W) (W : World) : (binOp .neq t (.agg a) (.agg b)).run P W = .ok (.bool !r) W := by
 simp [binOp, Op.equal, h W]
end Go.Proofs.YtmlncblocfcmiaaGreat
namespace Go.Proofs.YtmlncblocfcmiaaGreat
open Go.RowKit
variable {dd : Bool}
def kU (k : IntKind) (x : Int) : List Value := [.int k x]
def Bs (x : ByteArray) : List Value := [.string x]
theorem Aq (k : IntKind) (x : Int) : ∀ u ∈ kU k x, u.oneCell' = true := by intro u hu; simp [kU] at hu; subst hu; rfl
theorem Ms (x : ByteArray) : ∀ u ∈ Bs x, u.oneCell' = true := by intro u hu; simp [Bs] at hu; subst hu; rfl
def zS : ByteArray := ⟨#[]⟩
def pV (a b : ByteArray) : Bool := Op.bytesLess a.toList b.toList
@[irreducible] def kC : Nat := 18446744073709551616
theorem vt : kC = 18446744073709551616 := by unfold kC; rfl
def lj {α : Type} (l : List α) (i : Int) : Option α := if 0 ≤ i then l[i.toNat]? else none
theorem kj {α : Type} {l : List α} {i : Int} {x : α} (h : lj l i = some x) : 0 ≤ i := by
 unfold lj at h; split at h
 ·assumption
 ·cases h
theorem kh {α : Type} {l : List α} {i : Int} {x : α} (h : lj l i = some x) : l[i.toNat]? = some x := by
 unfold lj at h; split at h
 ·exact h
 ·cases h
theorem DC {α : Type} (l : List α) (i : Nat) : lj l (i : Int) = l[i]? := by simp [lj]
def yv (s : ByteArray) (i : Int) : Option UInt8 := if 0 ≤ i then s[i.toNat]? else none
theorem Is {s : ByteArray} {i : Int} {x : UInt8} (h : yv s i = some x) : 0 ≤ i := by
 unfold yv at h; split at h
 ·assumption
 ·cases h
theorem LV {s : ByteArray} {i : Int} {x : UInt8} (h : yv s i = some x) : s[i.toNat]? = some x := by
 unfold yv at h; split at h
 ·exact h
 ·cases h
section
variable {F : Nat → Prop} {w W : World} {μ : km} {L L' : List (Nat × Obj)} {α : Type} {e : TypeId} {enc : α → List Value} {k : Nat} {v : Value} {l : List α} {R : List (Nat × Obj)}
theorem ST.at_ (h : ST dd F w W μ L) {b : Nat} {o : Obj} (a : (b, o) ∈ L) : hp W b = some o := (h.box b o a).1
theorem kk.form (h : kk e enc k v l R) : ∃ A c, v = .slice A l.length c := by
 rcases h with ⟨rfl, rfl, rfl⟩ | ⟨g, cap, a, rfl, rfl, h1, b, d, i⟩
 ·exact ⟨_, _, rfl⟩
 ·exact ⟨_, _, rfl⟩
theorem Sl.form {R : pj α} (h : Sl R k μ v l) : ∃ A c, v = .slice A l.length c := let ⟨A, c, h, _⟩ := h; ⟨A, c, h⟩
theorem kk.IS (h : kk e enc k v l R) (c : ST dd kQ w W μ L) (i : ∀ p, p ∈ R → p ∈ L) : Fr w.heap.size v := by
 rcases h with ⟨rfl, rfl, rfl⟩ | ⟨g, cap, a, rfl, rfl, h1, j, m, n⟩
 ·exact Fr.nil _
 ·intro b d
  simp [Value.ownBlock] at d
  subst d
  rcases (c.box g (.cells a e (0, 0)) (i _ (bM.2 rfl))).2.2 with h | h
  ·exact h
  ·exact h.elim
theorem Sl.lit {b m : Nat} {cs : Array Value} (hk : ∀ x, (enc x).length = k) (hm : l.length = m) (c : m ≤ maxLen) (a : cs.toList = (l.map enc).flatten) (d : μ b = some (.cells cs e (0, 0))) : Sl (Pl enc) k μ (.slice (some ⟨b, 0, none⟩) m m) l :=
 (kk.lit (e := e) (b := b) hm c a (by have := aX List.length a; rw [pt hk, dl, hm] at this; exact this)).sl hk (fun g o h => by simp at h; obtain ⟨rfl, rfl⟩ := h; exact d)
theorem Fr.box (h : ST dd kQ w W μ L) {b m c : Nat} {o : Obj} (d : (b, o) ∈ L) : Fr w.heap.size (.slice (some ⟨b, 0, none⟩) m c) := by
 intro g a
 simp [Value.ownBlock] at a
 subst a
 rcases (h.box b o d).2.2 with h | h
 ·exact h
 ·exact h.elim
theorem ST.perm (h : ST dd F w W μ L) (hp : L.Perm L') : ST dd F w W μ L' :=
 ⟨h.os, h.tape, h.output, h.drawn, h.size, h.mh, h.mem, fun b o a => h.box b o (hp.mem_iff.2 a), (hp.map _).nodup_iff.1 h.nd⟩
theorem ST.sublist (h : ST dd F w W μ L) (a : L'.Sublist L) : ST dd F w W μ L' :=
 ⟨h.os, h.tape, h.output, h.drawn, h.size, h.mh, h.mem, fun b o c => h.box b o (a.subset c), h.nd.sublist (a.map _)⟩
end
section
variable {E : Nat → Value} {x1 x2 x3 x4 x5 x6 : Operand} {v1 v2 v3 v4 v5 v6 : Value}
theorem tD (h1 : jP E x1 = v1) : #[x1].map (jP E) ++ (#[] : Array Value) = [v1].toArray := by simp [h1]
theorem ua (h1 : jP E x1 = v1) (a : jP E x2 = v2) : #[x1, x2].map (jP E) ++ (#[] : Array Value) = [v1, v2].toArray := by simp [h1, a]
end
theorem Gp : ∀ (v : List Value) (i off : Nat) (cells : Array Value), off + i + v.length ≤ cells.size →
  (v.zipIdx i).foldl (fun cs (c, j) => cs.setIfInBounds (off + j) c) cells = (cells.toList.take (off + i) ++ v ++ cells.toList.drop (off + i + v.length)).toArray
 | [], i, off, cells, h => by simp
 | c :: v, i, off, cells, h => by
  simp only [iX, jm]
  simp only [aO] at h
  rw [Gp v (i + 1) off _ (by simp; omega)]
  have d : off + i < cells.toList.length := by simp; omega
  congr 1
  rw [Array.toList_setIfInBounds]
  apply ey
  intro j
  have g : (cells.toList.take (off + i)).length = off + i := by simp; omega
  by_cases h1 : j < off + i
  ·simp only [fC, aD, cY, gH, dl, aO, fi, eV, dO]
   rw [show min (off + (i + 1)) cells.size = off + (i + 1) by omega, show min (off + i) cells.size = off + i by omega]
   rw [aZ (by omega), aZ (by omega), aZ (by omega), aY (by omega), aZ (by omega), aZ (by omega), aZ (by omega)]
  ·by_cases b : j = off + i
   ·subst b
    simp [fC, fi, eV, show off + i < off + (i + 1) by omega]
    rw [aZ (by omega), aZ (by omega), aY (by omega), show off + i - min (off + i) cells.size = 0 by omega]
    rfl
   ·simp only [fC, aD, cY, gH, dl, aO, fi, eV, dO]
    rw [show min (off + (i + 1)) cells.size = off + (i + 1) by omega, show min (off + i) cells.size = off + i by omega]
    by_cases a : j < off + (i + 1) + v.length
    ·rw [aZ a, aY (by omega), aZ (by omega), aY (by omega)]
     rw [show j - (off + i) = (j - (off + (i + 1))) + 1 by omega]
     simp
    ·rw [aY a, aY (by omega), aY (by omega)]
     congr 1
     omega
theorem Hh {k : Nat} : ∀ (vs : List Value) (i : Nat) (pre rest : List Value), (∀ v ∈ vs, v.cells.size = k) → pre.length = i * k → rest.length = vs.length * k →
  Instr.fill (fun i => some (i * k, k)) (pre ++ rest).toArray ((vs.zipIdx i).map (fun p => (p.2, p.1))) = some (pre ++ vs.flatMap (fun v => v.cells.toList)).toArray
 | [], i, pre, rest, d, hp, b => by
  have : rest = [] := by cases rest <;> simp at b ⊢
  simp [Instr.fill, this]
 | v :: vs, i, pre, rest, d, hp, b => by
  have a := d v (by simp)
  have g : v.cells.zipIdx.foldl (fun cs (c, j) => cs.setIfInBounds (i * k + j) c) (pre ++ rest).toArray = (pre ++ v.cells.toList ++ rest.drop k).toArray := by
   have := Gp v.cells.toList 0 (i * k) (pre ++ rest).toArray (by simp [hp, b, a, cN])
   rw [← Array.toList_zipIdx, Array.foldl_toList] at this
   rw [this]
   congr 1
   simp [← hp, a]
  simp only [iX, bH, Instr.fill]
  rw [aY (by simp [a, hp, b, cN]), g]
  have := Hh vs (i + 1) (pre ++ v.cells.toList) (rest.drop k) (fun u hu => d u (by simp [hu])) (by simp [hp, a, cN]) (by simp [b, cN])
  rw [this]
  simp
theorem LZ {k m : Nat} {a cs : Array Value} {b : Array (Nat × Value)} (vs : List Value) (d : b.toList = vs.zipIdx.map (fun p => (p.2, p.1))) (h : ∀ v ∈ vs, v.cells.size = k) (hm : vs.length = m) (g : a.size = m * k) (c : (vs.flatMap (fun v => v.cells.toList)).toArray = cs) : Instr.fill (fun i => some (i * k, k)) a b.toList = some cs := by
 subst hm c
 rw [d]
 have := Hh vs 0 [] a.toList h (by simp) (by simpa using g)
 simpa using this
theorem wS {P : Program} {t e : TypeId} {m k : Nat} {z : Value} {a : Array (Nat × Value)} {cs : Array Value} (vs : List Value) (h : P.underlying t = some (.slice e)) (g : ∀ w, (sizeOf e).run P w = .ok k w) (j : ∀ w, (zeroValue e).run P w = .ok z w) (hm : m * k ≤ 16777216) (d : a.toList = vs.zipIdx.map (fun p => (p.2, p.1))) (i : ∀ v ∈ vs, v.cells.size = k) (c : vs.length = m) (b : (vs.flatMap (fun v => v.cells.toList)).toArray = cs) (W : World) :
  (Instr.buildSlice t m a).run P W = .ok (.slice (some ⟨W.heap.size, 0, none⟩) m m) (W.alloc (.cells cs e (0, 0))) :=
 FT h g j hm (LZ vs d i c (by simp) b) W
theorem pK {E : Nat → Value}  : (#[] : Array (Nat × Operand)).map (fun (i, x) => (i, jP E x)) = #[] := by simp
theorem mQ {E : Nat → Value} {x0 : Operand} {v0 : Value} {i0 : Nat} (a : jP E x0 = v0) : (#[(i0, x0)] : Array (Nat × Operand)).map (fun (i, x) => (i, jP E x)) = #[(i0, v0)] := by simp [a]
theorem qf {E : Nat → Value} {x0 x1 : Operand} {v0 v1 : Value} {i0 i1 : Nat} (a : jP E x0 = v0) (h1 : jP E x1 = v1) : (#[(i0, x0), (i1, x1)] : Array (Nat × Operand)).map (fun (i, x) => (i, jP E x)) = #[(i0, v0), (i1, v1)] := by simp [a, h1]
theorem Ft {E : Nat → Value} {x0 x1 x2 : Operand} {v0 v1 v2 : Value} {i0 i1 i2 : Nat} (a : jP E x0 = v0) (h1 : jP E x1 = v1) (b : jP E x2 = v2) : (#[(i0, x0), (i1, x1), (i2, x2)] : Array (Nat × Operand)).map (fun (i, x) => (i, jP E x)) = #[(i0, v0), (i1, v1), (i2, v2)] := by simp [a, h1, b]
theorem kE {P : Program} {t : TypeId} {f off : Nat} {a : Array Field} {fd : Field} (h : P.underlying t = some (.struct a)) (c : a[f]? = some fd) {k : Nat} (g : ∀ w, (sizeOf fd.type).run P w = .ok k w) (hk : k ≠ 0) (d : fd.offset = off) : lp P t f off := by
 intro b o w
 subst d
 simp [Instr.fieldAt, aT h, c, Instr.sureAddr, fieldPlace, dJ, g w, hk]
theorem Ag.Fc {n : Nat} {a : Act} {E : Nat → Value} (h : Ag n a E) {ops : Array Oper} {j t : Nat} (c : (ops[j]?).bind (·.dst) = some t) (g : t < n) (i : E t = undef) : yielded ops a.tmps j = none := by
 have b := h.2.2 t
 have d : a.tmps[t]? = some (E t) := by
  rw [← b]
  simp [eA, h.1, g]
 simp [yielded, c, d, i, undef]
theorem Pw {P : Program} {n : Nat} {Q : pU} {E : Nat → Value} {W : World} {ops : Array Oper} {rest : List Oper} {o : Oper} {d j t : Nat} {want : Bool} (c : o.dst = some d) (k : d < n) (g : o.guard = some (j, want)) (i : (ops[j]?).bind (·.dst) = some t) (l : t < n) (b : E t = undef) (h : LW P n ops Q rest (nL E d undef) W) : LW P n ops Q (o :: rest) E W := fun a ha => by
 unfold wpList
 have m := ha.Fc i l b
 rw [aY (by simp [Region.wanted, g, m])]
 rw [c]
 exact h _ (ha.put k _)
theorem Qq {P : Program} {n : Nat} {Q : pU} {E : Nat → Value} {W : World} {ops : Array Oper} {rest : List Oper} {A : Value → Prop} {o : Oper} {dd : Nat} (hw : kq n ops E o) (b : o.dst = some dd) (c : dd < n) (d : ∃ p, A p ∧ ∀ W, lV P E o W p W) (h : ∀ p, A p → LW P n ops Q rest (nL E dd p) W) : LW P n ops Q (o :: rest) E W := by
 obtain ⟨p, h1, a⟩ := d
 exact Fz hw b c (a W) (h p h1)
end Go.Proofs.YtmlncblocfcmiaaGreat
namespace Go.Proofs.YtmlncblocfcmiaaGreat
open Go.RowKit
variable {dd : Bool}
theorem uD {P : Program} {n : Nat} {x : Code} {Q : pU} {E : Nat → Value} {W : World} (h : CW P n x (pS (fun E W => Q .normal E W) Q) E W) : CW P n x Q E W :=
 FA h (fun e E W h => by cases e <;> exact h)
section
variable {P : Program} {n : Nat} {Q : pU} {E : Nat → Value} {W : World} {d : Option Nat} {ty : TypeId} {pos : String} {af : Array Edge} {g : Option (Nat × Bool)}
 {F : Nat → Prop} {w : World} {μ : km} {L : List (Nat × Obj)}
def M1 (k : IntKind) (op : BinOp) (a b : Int) : Option Value :=
 match op with
 | .quo => some (.int k (k.wrap (a.tdiv b)))
 | .rem => some (.int k (a.tmod b))
 | .and => some (.int k (k.wrap (BitVec.ofInt k.bits a &&& BitVec.ofInt k.bits b).toNat))
 | .or => some (.int k (k.wrap (BitVec.ofInt k.bits a ||| BitVec.ofInt k.bits b).toNat))
 | _ => none
theorem M4 {op : BinOp} {c m : TypeId} {x y : Operand} {k : IntKind} {a b : Int} {v : Value} (j : jP E x = .int k a) (l : jP E y = .int k b) (i : b ≠ 0) (h : M1 k op a b = some v) :
  lV P E ⟨d, .binOp op c x y m, ty, pos, af, g⟩ W v W := by
 show (do let r ← (do eqGuard op c x y (jP E x) (jP E y); binOp op c (jP E x) (jP E y)); pure (.value r) : Sem Next).run P W = _
 rw [j, l]
 cases op <;> simp [M1] at h <;> subst h <;> simp [eqGuard, binOp, Op.intDiv, Op.intBits, i]
theorem Fh {c j : TypeId} {x y : Operand} {k k' : IntKind} {a b : Int} (h : jP E x = .int k a) (i : jP E y = .int k' b) (l : 0 ≤ b) :
  lV P E ⟨d, .binOp .shr c x y j, ty, pos, af, g⟩ W (.int k (a.fdiv (2 ^ min b.toNat k.bits))) W := by
 show (do let r ← (do eqGuard .shr c x y (jP E x) (jP E y); binOp .shr c (jP E x) (jP E y)); pure (.value r) : Sem Next).run P W = _
 rw [h, i]
 simp [eqGuard, binOp, Op.shift, show ¬ b < 0 by omega]
theorem rY {s t : TypeId} {x : Operand} {k k' : IntKind} {a : Int} {u : TypeDesc} (b : P.underlying s = some u) (c : P.underlying t = some (.int k)) (h : jP E x = .int k' a) :
  lV P E ⟨d, .convert s t x, ty, pos, af, g⟩ W (.int k (k.wrap a)) W := by
 show (do pure (.value (← convert s t (jP E x))) : Sem Next).run P W = _
 rw [h]
 simp [convert, aT b, aT c, Conv.intToInt]
theorem FY {t e : TypeId} (dd : Nat) (a : P.underlying t = some (.slice e)) (A : Option Addr) (l c : Nat) (W : World) : (Op.equalIn (dd + 1) t (.slice A l c) (.slice none 0 0)).run P W = .ok A.isNone W := by
 cases A <;> simp [Op.equalIn, aT a]
theorem wT {a k e : TypeId} {x y : Operand} {A : Option Addr} {l c : Nat} (h : P.underlying a = some (.slice e)) (i : jP E x = .slice A l c) (j : jP E y = .slice none 0 0) :
  lV P E ⟨d, .binOp .eql a x y k, ty, pos, af, g⟩ W (.bool A.isNone) W := by
 show (do let r ← (do eqGuard .eql a x y (jP E x) (jP E y); binOp .eql a (jP E x) (jP E y)); pure (.value r) : Sem Next).run P W = _
 rw [i, j]
 have b := FY 9999 h A l c W
 simp [eqGuard, binOp, Op.equal, show Op.maxDepth = 9999 + 1 from rfl, b]
def rK (s : ByteArray) : List Int := s.data.toList.map (fun b => (b.toNat : Int))
def Bf (s : ByteArray) : Option (List Int) := if s.size ≤ maxLen then some (rK s) else none
theorem oT (s : ByteArray) : (rK s).length = s.size := by simp only [rK, cU, dl]; rfl
theorem JO {s : ByteArray} {cap i : Nat} {x : Int} (h : (rK s)[i]? = some x) : (bytesRow s cap)[i]? = some (.int .u8 x) := by
 have d : i < s.size := by have := (bG.1 h).1; rwa [oT] at this
 have a : i < s.data.size := d
 simp [rK] at h
 obtain ⟨b, c, rfl⟩ := h
 rw [bytesRow, Array.getElem?_append_left (by simpa using a)]
 simp [c]
theorem Gq {K : Value → World → Prop} {s t e : TypeId} {x : Operand} {str : ByteArray} {l : List Int} (c : ST dd F w W μ L) (q : P.underlying s = some .string) (o : P.underlying t = some (.slice e)) (he : P.underlying e = some (.int .u8)) (m : jP E x = .string str) (a : Bf str = some l) (h : ∀ W' v μ', ST dd F w W' μ' L → kf μ μ' → Lo F w μ μ' → Sl (Pl (kU .u8)) 1 μ' v l → Fr w.heap.size v → K v W') : mL P E ⟨d, .convert s t x, ty, pos, af, g⟩ W K := by
 unfold Bf at a
 split at a
 case isFalse => cases a
 rename_i hm
 cases a
 have k := run_bytes_of_string (P := P) W s t e str q o he
 have h1 := c.drew.alloc (.cells (bytesRow str (grownCap W str.size 0 e)) e ((bytesRow str (grownCap W str.size 0 e)).size, (bytesRow str (grownCap W str.size 0 e)).size + 1))
 refine .inl ⟨.slice (some ⟨W.heap.size, 0, none⟩) str.size (grownCap W str.size 0 e), _, ?_, h _ _ _ (ST.FE (A := []) h1) (ST.FL (A := []) h1) (ST.Le (A := []) h1) ?_ ?_⟩
 ·show (do pure (.value (← convert s t (jP E x))) : Sem Next).run P W = _
  rw [m]
  simp only [cE, k, bN, dq]
 ·refine ⟨_, grownCap W str.size 0 e, by rw [oT], by rw [oT]; exact grownCap_ge W str.size 0 e, gS W str.size 0 e hm, fun _ => ⟨W.heap.size, 0, bytesRow str (grownCap W str.size 0 e), e, _, rfl, aZ rfl, fun i x m => ⟨_, rfl, rfl, fun j y n => ?_⟩⟩⟩
  cases j with
  | zero => simp [kU] at n; subst n; simpa using JO m
  | succ j => simp [kU] at n
 ·intro b a
  simp [Value.ownBlock] at a
  subst a
  exact c.size
def yt (l : List Int) : ByteArray := l.foldl (fun r n => r.push (UInt8.ofNat n.toNat)) ByteArray.empty
theorem Jj {s t e : TypeId} {x : Operand} {v : Value} {l : List Int} (z : P.underlying s = some (.slice e)) (he : P.underlying e = some (.int .u8)) (y : P.underlying t = some .string) (F : jP E x = v) (D : Sl (Pl (kU .u8)) 1 (hp W) v l) :
  lV P E ⟨d, .convert s t x, ty, pos, af, g⟩ W (.string (yt l)) W := by
 show (do pure (.value (← convert s t (jP E x))) : Sem Next).run P W = _
 obtain ⟨A, c, rfl, G, I, q⟩ := D
 rw [F]
 simp only [cE, run_convert_bytes_string W s t e A l.length c z he y]
 rcases ek l.length with h | h
 ·have : l = [] := dM.1 h
  subst this
  cases A with
  | none => simp [Conv.bytesToString, yt]
  | some a =>
   have r := run_bytesToString (P := P) W a 0 c [] (by simpa using gQ (P := P) W a [] (by simp))
   simp only [bU]
   rw [r]
   simp [yt]
 ·obtain ⟨b, off, cs, T, fr, rfl, u, w⟩ := q h
  have o := gQ (P := P) W ⟨b, off, none⟩ (l.map (Value.int .u8)) (fun j v n => by
   simp at n
   obtain ⟨x, k, rfl⟩ := n
   obtain ⟨ys, _, m, i⟩ := w j x k
   cases m
   rw [dJ, fV W b (off + j) cs T fr u]
   have := i 0 (.int .u8 x) rfl
   simpa using this)
  simp only [cU] at o
  rw [run_bytesToString W _ l.length c l o]
  simp [yt]
end
end Go.Proofs.YtmlncblocfcmiaaGreat
namespace Go.Proofs.YtmlncblocfcmiaaGreat
open Go.RowKit
variable {dd : Bool}
def keys (L : List (Nat × Obj)) : Nat → Prop := fun b => ∃ o, (b, o) ∈ L
structure QL (dd : Bool) (F : Nat → Prop) (w W : World) : Prop where
 os : W.os = w.os
 tape : W.tape = w.tape
 output : W.output = w.output
 drawn : su dd w.drawn W.drawn
 size : w.heap.size ≤ W.heap.size
 mh : ∀ b, b < w.heap.size → ¬ F b → W.heap[b]? = w.heap[b]?
def Cm (L : List (Nat × Obj)) (W : World) : Prop := ∀ b o, (b, o) ∈ L → W.heap[b]? = some o
structure sI (dd : Bool) (L0 L1 : List (Nat × Obj)) (w w' : World) : Prop where
 ex : QL dd (keys L0) w w'
 held : ∀ b o, (b, o) ∈ L1 → w'.heap[b]? = some o ∧ (w.heap.size ≤ b ∨ keys L0 b)
 nd : (L1.map (·.1)).Nodup
open Classical in
noncomputable def ta (w : World) (L : List (Nat × Obj)) : km := fun b => if keys L b then none else w.heap[b]?
open Classical in
noncomputable def zT (μ : km) (W W' : World) (L1 : List (Nat × Obj)) : km := fun b => if b < W.heap.size then μ b else if keys L1 b then none else W'.heap[b]?
section
variable {F : Nat → Prop} {w W W' : World} {μ μ' : km} {L L0 L1 : List (Nat × Obj)}
theorem ST.Ps (a : Cm L0 w) (c : (L0.map (·.1)).Nodup) : ST dd (keys L0) w w (ta w L0) L0 :=
 ⟨rfl, rfl, rfl, su.of (aV _), aV _, fun _ _ _ => rfl, fun b o h => by
  unfold ta at h; split at h
  ·cases h
  ·exact h, fun b o h => ⟨a b o h, by unfold ta; rw [aZ ⟨o, h⟩], .inr ⟨o, h⟩⟩, c⟩
theorem Dn {A B : List (Nat × Obj)} (h : ((A ++ B).map (·.1)).Nodup) {b : Nat} {o : Obj} (a : (b, o) ∈ B) : ¬ keys A b := by
 rintro ⟨d, c⟩
 rw [cD] at h
 exact (bV.1 h).2.2 b (bB.2 ⟨_, c, rfl⟩) b (bB.2 ⟨_, a, rfl⟩) rfl
theorem ST.back (h : ST dd F w W μ (L0 ++ L)) (j : sI dd L0 L1 W W') : ST dd F w W' (zT μ W W' L1) (L1 ++ L) := by
 have hk : ∀ b, keys L0 b → b < W.heap.size ∧ μ b = none ∧ (w.heap.size ≤ b ∨ F b) := fun b ⟨o, d⟩ => by
  obtain ⟨h1, g, m⟩ := h.box b o (cF _ d)
  exact ⟨ny h1, g, m⟩
 refine ⟨j.ex.os.trans h.os, j.ex.tape.trans h.tape, j.ex.output.trans h.output, su.trans h.drawn j.ex.drawn, dB h.size j.ex.size, fun b i n => ?_, fun b o d => ?_, fun b o d => ?_, ?_⟩
 ·rw [j.ex.mh b (dZ i h.size) (fun k => by
   rcases (hk b k).2.2 with h | h
   ·omega
   ·exact n h)]
  exact h.mh b i n
 ·unfold zT at d
  split at d
  ·rename_i i
   rw [j.ex.mh b i (fun k => by rw [(hk b k).2.1] at d; cases d)]
   exact h.mem b o d
  ·split at d
   ·cases d
   ·exact d
 ·rcases aR.1 d with d | d
  ·obtain ⟨h1, g⟩ := j.held b o d
   refine ⟨h1, ?_, ?_⟩
   ·unfold zT
    split
    ·rename_i i
     rcases g with g | g
     ·omega
     ·exact (hk b g).2.1
    ·rw [aZ ⟨o, d⟩]
   ·rcases g with g | g
    ·exact .inl (dB h.size g)
    ·exact (hk b g).2.2
  ·obtain ⟨h1, g, m⟩ := h.box b o (dR _ d)
   refine ⟨?_, ?_, m⟩
   ·rw [j.ex.mh b (ny h1) (Dn h.nd d)]; exact h1
   ·unfold zT; rw [aZ (ny h1)]; exact g
 ·rw [cD]
  have r : (L.map (·.1)).Nodup := by have := h.nd; rw [cD] at this; exact (bV.1 this).2.1
  refine bV.2 ⟨j.nd, r, fun a ha c s e => ?_⟩
  subst e
  obtain ⟨⟨b, o⟩, d, rfl⟩ := bB.1 ha
  obtain ⟨⟨q, t⟩, l, e⟩ := bB.1 s
  simp at e; subst e
  have i := h.Dg (dR _ l)
  rcases (j.held q o d).2 with g | g
  ·omega
  ·exact Dn h.nd l g
theorem ST.HF (h : ST dd F w W μ L) (W' : World) (L1 : List (Nat × Obj)) : Lo F w μ (zT μ W W' L1) := fun b a _ => aZ (dZ a h.size)
theorem ST.Gt (h : ST dd F w W μ L) (W' : World) (L1 : List (Nat × Obj)) : kf μ (zT μ W W' L1) := fun b o a => by
 unfold zT; rw [aZ (h.BL a)]; exact a
theorem ST.kY (h : ST dd F w W μ L) (c : ∀ p, p ∈ L0 → p ∈ L) : kf μ (ta W L0) := fun b o a => by
 unfold ta
 rw [aY]
 ·exact h.mem b o a
 ·rintro ⟨g, d⟩
  rw [(h.box b g (c _ d)).2.1] at a
  cases a
theorem sI.GV (h : Ex dd w W) (c : ∀ b o, (b, o) ∈ L1 → W.heap[b]? = some o ∧ w.heap.size ≤ b) (d : (L1.map (·.1)).Nodup) : sI dd [] L1 w W :=
 ⟨⟨h.os, h.tape, h.output, h.drawn, h.size, fun b a _ => h.mh b a⟩, fun b o a => ⟨(c b o a).1, .inl (c b o a).2⟩, d⟩
end
def lC (dd : Bool) (P : Program) (f : FuncId) (args : List Value) (w : World) (L0 : List (Nat × Obj)) (K : Value → List (Nat × Obj) → World → Prop) : Prop :=
 Calls P f args.toArray w fun e a => ∃ v L1, e = .returned v ∧ sI dd L0 L1 w a ∧ K v L1 a
def mw (dd : Bool) {α : Type} (P : Program) (f : FuncId) (args : List Value) (w : World) (e : TypeId) (enc : α → List Value) (k : Nat) (l : List α) : Prop :=
 lC dd P f args w [] fun v R _ => kk e enc k v l R
theorem sI.lD {L0 L1 : List (Nat × Obj)} {w a : World} (h : sI true L0 L1 w a) : sI dd L0 L1 w a := ⟨⟨h.ex.os, h.ex.tape, h.ex.output, su.of (h.ex.drawn rfl), h.ex.size, h.ex.mh⟩, h.held, h.nd⟩
theorem ki.lD {P : Program} {f : FuncId} {args : List Value} {w : World} {v : Value} (h : ki true P f args w v) : ki dd P f args w v := dC h fun _ _ h => ⟨h.1, h.2.lD⟩
theorem lC.lD {P : Program} {f : FuncId} {args : List Value} {w : World} {L0 : List (Nat × Obj)} {K : Value → List (Nat × Obj) → World → Prop} (h : lC true P f args w L0 K) : lC dd P f args w L0 K := dC h fun _ _ ⟨v, L1, h1, a, b⟩ => ⟨v, L1, h1, a.lD, b⟩
theorem mw.lD {α : Type} {P : Program} {f : FuncId} {args : List Value} {w : World} {e : TypeId} {enc : α → List Value} {k : Nat} {l : List α} (h : mw true P f args w e enc k l) : mw dd P f args w e enc k l := lC.lD h
section
variable {P : Program} {E : Nat → Value} {W : World} {d : Option Nat} {ty : TypeId} {pos : String} {af : Array Edge} {g : Option (Nat × Bool)}
 {F : Nat → Prop} {w : World} {μ : km} {L : List (Nat × Obj)}
theorem ME {K : Value → World → Prop} {K' : Value → List (Nat × Obj) → World → Prop} {f : FuncId} {fv : Operand} {ax : Array Operand} {ats : Array TypeId} {caps : Array Value} {args : List Value} (L0 L2 : List (Nat × Obj)) (a : ST dd F w W μ L) (b : L.Perm (L0 ++ L2)) (k : jP E fv = .func (.func f) #[] caps) (he : ∀ args w, (callFunc f args).run P w = .ok (.enter f args) w) (ha : ax.map (jP E) ++ caps = args.toArray) (j : lC dd P f args W L0 K') (h : ∀ W' v μ' L1, ST dd F w W' μ' (L1 ++ L2) → kf μ μ' → Lo F w μ μ' → K' v L1 W' → K v W') : mL P E ⟨d, .call ⟨.value fv, ax, ats⟩, ty, pos, af, g⟩ W K :=
 Dm k he ha (dC j (fun _ W' ⟨v, L1, h1, c, i⟩ => ⟨v, h1, h W' v _ L1 ((a.perm b).back c) ((a.perm b).Gt W' L1) ((a.perm b).HF W' L1) i⟩))
theorem JB {K : Value → World → Prop} {α : Type} {e : TypeId} {enc : α → List Value} {k : Nat} {l : List α} {f : FuncId} {fv : Operand} {ax : Array Operand} {ats : Array TypeId} {caps : Array Value} {args : List Value} (X Y : List (Nat × Obj)) (a : ST dd F w W μ (X ++ Y)) (m : jP E fv = .func (.func f) #[] caps) (he : ∀ args w, (callFunc f args).run P w = .ok (.enter f args) w) (ha : ax.map (jP E) ++ caps = args.toArray) (j : mw dd P f args W e enc k l) (h : ∀ W' v μ' R, ST dd F w W' μ' (X ++ (R ++ Y)) → kf μ μ' → Lo F w μ μ' → kk e enc k v l R → K v W') : mL P E ⟨d, .call ⟨.value fv, ax, ats⟩, ty, pos, af, g⟩ W K :=
 ME [] (X ++ Y) a (.refl _) m he ha j (fun W' v μ' L1 h1 b i c => h W' v μ' L1 (h1.perm (by rw [← aN, ← aN]; exact List.perm_append_comm.append_right Y)) b i c)
end
theorem ST.nQ {w W : World} {μ : km} {L R : List (Nat × Obj)} (h : ST dd kQ w W μ L) (a : ∀ p, p ∈ R → p ∈ L) (d : (R.map (·.1)).Nodup) : sI dd [] R w W :=
 sI.GV h.ex (fun b o c => ⟨(h.box b o (a _ c)).1, by
  rcases (h.box b o (a _ c)).2.2 with h | h
  ·exact h
  ·exact h.elim⟩) d
theorem qV {P : Program} {E : Nat → Value} {W : World} {d : Option Nat} {ty : TypeId} {pos : String} {af : Array Edge} {g : Option (Nat × Bool)} {α : Type} {e' : TypeId} {enc : α → List Value} {k : Nat} {v : Value} {l : List α} {R : List (Nat × Obj)} {x : Operand} {t e : TypeId} (a : P.underlying t = some (.slice e)) (b : jP E x = v) (h : kk e' enc k v l R) : lV P E ⟨d, .call ⟨.builtin .len, #[x], #[t]⟩, ty, pos, af, g⟩ W (.int .i64 l.length) W := by
 obtain ⟨A, c, rfl⟩ := h.form
 exact xU a b
section
variable {α : Type} {e : TypeId} {enc : α → List Value} {k : Nat} {v : Value} {l : List α} {R : List (Nat × Obj)}
theorem kk.nd (h : kk e enc k v l R) : (R.map (·.1)).Nodup := by
 rcases h with ⟨rfl, rfl, rfl⟩ | ⟨g, cap, a, rfl, rfl, _⟩ <;> simp
end
end Go.Proofs.YtmlncblocfcmiaaGreat
namespace Go.Proofs.YtmlncblocfcmiaaGreat
open Go.RowKit
variable {dd : Bool}
def zK (R : List (Nat × Obj)) (k : Nat) (p : Value) (i : Nat) : Prop := ∃ g o, R = [(g, o)] ∧ p = .pointer (some ⟨g, i * k, none⟩)
section
variable {P : Program} {E : Nat → Value} {W : World} {d : Option Nat} {ty : TypeId} {pos : String} {af : Array Edge} {g : Option (Nat × Bool)}
 {F : Nat → Prop} {w : World} {μ : km} {L : List (Nat × Obj)} {α : Type} {e' : TypeId} {enc : α → List Value} {k : Nat} {v : Value} {l : List α} {R : List (Nat × Obj)}
theorem nz {t e : TypeId} {x b : Operand} {u : IntKind} {i : Int} {x0 : α} (r : P.underlying t = some (.slice e)) (he : ∀ w, (sizeOf e).run P w = .ok k w) (s : jP E x = v) (o : jP E b = .int u i) (h : kk e' enc k v l R) (m : 0 ≤ i) (q : l[i.toNat]? = some x0) :
  ∃ p, zK R k p i.toNat ∧ ∀ W, lV P E ⟨d, .indexAddr t x b, ty, pos, af, g⟩ W p W := by
 have a : i.toNat < l.length := (bG.1 q).1
 rcases h with ⟨rfl, rfl, rfl⟩ | ⟨j, cap, c, rfl, rfl, h1, y, z, A⟩
 ·simp at a
 refine ⟨.pointer (some ⟨j, i.toNat * k, none⟩), ⟨_, _, rfl, rfl⟩, fun W => ?_⟩
 show (do pure (.value (← Instr.indexAt t (jP E x) (jP E b))) : Sem Next).run P W = _
 rw [s, o]
 have n : 0 ≤ i ∧ i < (l.length : Int) := ⟨m, by omega⟩
 simp [Instr.indexAt, asIntOf, aT r, he W, n, dJ]
theorem zt (h : kk e' enc k v l R) (hk : ∀ x, (enc x).length = k) {p : Value} {i : Nat} (hp : zK R k p i) {x0 : α} (m : l[i]? = some x0) :
  ∃ g a cap, R = [(g, .cells a e' (0, 0))] ∧ v = .slice (some ⟨g, 0, none⟩) l.length cap ∧ l.length ≤ cap ∧ cap ≤ maxLen ∧ a.size = cap * k ∧ a.toList.take (l.length * k) = (l.map enc).flatten ∧ p = .pointer (some ⟨g, i * k, none⟩) ∧ ∀ j y, (enc x0)[j]? = some y → a[i * k + j]? = some y := by
 have c : i < l.length := (bG.1 m).1
 rcases h with ⟨rfl, rfl, rfl⟩ | ⟨q, cap, a, rfl, rfl, h1, r, s, d⟩
 ·simp at c
 obtain ⟨g2, o, n, rfl⟩ := hp
 cases n
 refine ⟨q, a, cap, rfl, rfl, h1, r, s, d, rfl, fun j y t => ?_⟩
 have := uX hk l i x0 m j y t
 rw [← d] at this
 have b : i * k + j < l.length * k := by
  have := (bG.1 this).1
  simp at this; omega
 rw [dV b] at this
 simpa using this
theorem pB {A : List (Nat × Obj)} (hH : nt μ A W) (c : ∀ q, q ∈ R → q ∈ A) (h : kk e' enc k v l R) (hk : ∀ x, (enc x).length = k) {p : Value} {i : Nat} (hp : zK R k p i) {x0 : α} (j : l[i]? = some x0) {t : TypeId} (d : ∀ w, (isAgg t).run P w = .ok true w) (g : ∀ w, (sizeOf t).run P w = .ok k w) : (Instr.loadAt t p).run P W = .ok (.agg (enc x0).toArray) W := by
 obtain ⟨m, a, cap, rfl, rfl, _, _, _, _, rfl, b⟩ := zt h hk hp j
 exact Ar d (enc x0) (by rw [hk]; exact g) (hH.2 _ _ (c _ (bM.2 rfl))) b
theorem HK {A : List (Nat × Obj)} (hH : nt μ A W) (c : ∀ q, q ∈ R → q ∈ A) (h : kk e' enc k v l R) (hk : ∀ x, (enc x).length = k) {p : Value} {i : Nat} (hp : zK R k p i) {x0 : α} (g : l[i]? = some x0) {t : TypeId} {y : Value} (j : enc x0 = [y]) (d : ∀ w, (isAgg t).run P w = .ok false w) : (Instr.loadAt t p).run P W = .ok y W := by
 obtain ⟨m, a, cap, rfl, rfl, _, _, _, _, rfl, b⟩ := zt h hk hp g
 exact An d (hH.2 _ _ (c _ (bM.2 rfl))) (b 0 y (by rw [j]; rfl))
theorem Ei (hk : ∀ x, (enc x).length = k) : ∀ (l : List α) (i : Nat) (y : α), i < l.length → ((l.set i y).map enc).flatten = (l.map enc).flatten.take (i * k) ++ enc y ++ (l.map enc).flatten.drop (i * k + k)
 | [], i, y, h => by simp at h
 | z :: l, 0, y, h => by
  simp [hk]
 | z :: l, i + 1, y, h => by
  have := Ei hk l i y (by simpa using h)
  simp only [List.set_cons_succ, bH, bK, this]
  have h1 : (i + 1) * k = (enc z).length + i * k := by rw [hk, cN]; omega
  rw [h1, gN, ep, List.drop_length_add_append]
  simp
theorem J8 {K : Value → World → Prop} (X : List (Nat × Obj)) {Y : List (Nat × Obj)} {t : TypeId} {x y : Operand} {p u : Value} {i : Nat} {x0 x1 : α} (c : ST dd F w W μ (X ++ (R ++ Y))) (h : kk e' enc k v l R) (hk : ∀ x, (enc x).length = k) (h1 : ∀ x, ∀ u ∈ enc x, u.oneCell' = true) (O : jP E x = p) (Q : jP E y = u) (hu : u.cells = (enc x1).toArray) (hp : zK R k p i) (z : l[i]? = some x0) (L : ∀ w, (sizeOf t).run P w = .ok k w) (J : ∀ W' R', ST dd F w W' μ (X ++ (R' ++ Y)) → kk e' enc k v (l.set i x1) R' → K undef W') : mL P E ⟨d, .store t x y, ty, pos, af, g⟩ W K := by
 have q : i < l.length := (bG.1 z).1
 obtain ⟨m, a, cap, rfl, rfl, s, G, o, I, rfl, T⟩ := zt h hk hp z
 have hle : i * k + k ≤ cap * k := by
  have : (i + 1) * k ≤ cap * k := cO _ (by omega)
  rwa [cN, js] at this
 have j : i * k + k ≤ l.length * k := by
  have : (i + 1) * k ≤ l.length * k := cO _ (by omega)
  rwa [cN, js] at this
 have b : u.cells.size = k := by rw [hu]; simp [hk]
 have M := (c.box m (.cells a e' (0, 0)) (by simp)).1
 have hlen : l.length * k ≤ cap * k := cO _ s
 refine .inr (.inl ⟨W.setRow m (a.toList.take (i * k) ++ (enc x1) ++ a.toList.drop (i * k + k)).toArray, ?_, J _ [(m, .cells (a.toList.take (i * k) ++ (enc x1) ++ a.toList.drop (i * k + k)).toArray e' (0, 0))] (c.store _) (.inr ⟨m, cap, _, by simp, rfl, by simpa using s, G, ?_, ?_⟩)⟩)
 ·show (do Instr.storeAt t (jP E x) (jP E y); pure .skip : Sem Next).run P W = _
  rw [O, Q]
  have := A0 P (off := i * k) u (by rw [b]; exact L) (by rw [hu]; simpa using h1 x1) M (by rw [b, o]; exact hle)
  simp only [cE, this, bN, dq, b]
  rw [hu]
 ·show ((a.toList.take (i * k) ++ (enc x1) ++ a.toList.drop (i * k + k)).toArray).size = _
  have n : a.toList.length = cap * k := by simpa using o
  rw [dK, aD, aD, cY, gu, hk, n, dE (by omega)]; omega
 ·rw [gH, Ei hk l i x1 q, ← I]
  have A : (a.toList.take (l.length * k)).take (i * k) = a.toList.take (i * k) := by rw [ga]; congr 1; omega
  have D : (a.toList.take (l.length * k)).drop (i * k + k) = (a.toList.drop (i * k + k)).take (l.length * k - (i * k + k)) := by rw [gT]
  rw [A, D]
  show List.take (l.length * k) (a.toList.take (i * k) ++ enc x1 ++ a.toList.drop (i * k + k)) = _
  have n : a.toList.length = cap * k := by simpa using o
  have r : (a.toList.take (i * k) ++ enc x1).length = i * k + k := by rw [aD, cY, hk, n, dE (by omega)]
  rw [fg, dr (by rw [r]; exact j), r]
theorem CM (hk : ∀ x, (enc x).length = k) : ∀ (l : List α) (i : Nat), i ≤ l.length → ((l.take i).map enc).flatten = (l.map enc).flatten.take (i * k)
 | [], i, h => by simp
 | z :: l, 0, h => by simp
 | z :: l, i + 1, h => by
  have := CM hk l i (by simpa using h)
  simp only [List.take_succ_cons, bH, bK, this]
  rw [show (i + 1) * k = (enc z).length + i * k by rw [hk, cN]; omega, gN]
theorem vj {t e : TypeId} {x ih : Operand} {D : IntKind} {i : Int} (m : P.underlying t = some (.slice e)) (he : ∀ w, (sizeOf e).run P w = .ok k w) (n : jP E x = v) (j : jP E ih = .int D i) (h : kk e' enc k v l R) (hk : ∀ x, (enc x).length = k) (r : 0 ≤ i) (A : i ≤ l.length) :
  ∃ o, kk e' enc k o (l.take i.toNat) R ∧ ∀ W, lV P E ⟨d, .slice t x none (some ih) none, ty, pos, af, g⟩ W o W := by
 have a : i.toNat ≤ l.length := by omega
 rcases h with ⟨rfl, rfl, rfl⟩ | ⟨c, cap, b, rfl, rfl, h1, s, u, y⟩
 ·have : i = 0 := by simp at A; omega
  subst this
  refine ⟨.slice none 0 0, .inl ⟨rfl, by simp, rfl⟩, fun W => ?_⟩
  show (do pure (.value (← Instr.sliceAt t (jP E x) none (some (jP E ih)) none)) : Sem Next).run P W = _
  rw [n, j]
  simp [Instr.sliceAt, Instr.slice, Instr.sliceBounds, Instr.sliceBound, asIntOf, aT m, he W]
 ·refine ⟨.slice (some ⟨c, 0, none⟩) (l.take i.toNat).length cap, .inr ⟨c, cap, b, rfl, rfl, by simp; omega, s, u, ?_⟩, fun W => ?_⟩
  ·have q : (l.take i.toNat).length = i.toNat := by rw [cY]; omega
   have hle : i.toNat * k ≤ l.length * k := cO _ a
   rw [q, CM hk l i.toNat a, ← y, ga, dE hle]
  ·show (do pure (.value (← Instr.sliceAt t (jP E x) none (some (jP E ih)) none)) : Sem Next).run P W = _
   rw [n, j]
   have z : 0 ≤ i ∧ i ≤ (cap : Int) := ⟨r, by omega⟩
   simp [Instr.sliceAt, Instr.slice, Instr.sliceBounds, Instr.sliceBound, asIntOf, aT m, he W, z, dJ]
   omega
theorem DP {u : pj α} {t e : TypeId} {x r : Operand} {Z : IntKind} {i : Int} (U : P.underlying t = some (.slice e)) (he : ∀ w, (sizeOf e).run P w = .ok k w) (n : jP E x = v) (M : jP E r = .int Z i) (h : Sl u k μ v l) (z : 0 ≤ i) (O : i ≤ l.length) :
  ∃ s, (Sl u k μ s (l.drop i.toNat) ∧ ∀ B, Fr B v → Fr B s) ∧ ∀ W, lV P E ⟨d, .slice t x (some r) none none, ty, pos, af, g⟩ W s W := by
 obtain ⟨A, c, rfl, h2, h3, D⟩ := h
 have Q : i.toNat ≤ l.length := by omega
 refine ⟨.slice (if c = i.toNat then A else A.map (·.add (i.toNat * k))) (l.drop i.toNat).length (c - i.toNat), ⟨⟨_, _, rfl, by simp; omega, by omega, fun hp => ?_⟩, fun B L b m => ?_⟩, fun W => ?_⟩
 ·have R : i.toNat < l.length := by simp at hp; omega
  obtain ⟨b, off, cs, T, fr, rfl, F, G⟩ := D (by omega)
  refine ⟨b, off + i.toNat * k, cs, T, fr, ?_, F, fun j x n => ?_⟩
  ·rw [aY (by omega)]; simp [dJ]
  ·rw [dO] at n
   obtain ⟨ys, I, J, o⟩ := G _ x n
   refine ⟨ys, I, J, fun q y Y => ?_⟩
   have := o q y Y
   rw [cN] at this
   rw [show off + i.toNat * k + j * k + q = off + (i.toNat * k + j * k) + q by omega]
   exact this
 ·refine L b ?_
  cases A with
  | none => simp [Value.ownBlock] at m
  | some a =>
   split at m
   ·exact m
   ·obtain ⟨b', o', s'⟩ := a
    cases s' <;> simp [Value.ownBlock, Addr.add] at m ⊢ <;> split at m <;> exact m
 ·show (do pure (.value (← Instr.sliceAt t (jP E x) (some (jP E r)) none none)) : Sem Next).run P W = _
  rw [n, M]
  have m : 0 ≤ i ∧ i ≤ (l.length : Int) := ⟨z, O⟩
  simp [Instr.sliceAt, Instr.slice, Instr.sliceBounds, Instr.sliceBound, asIntOf, aT U, he W, m]
end
end Go.Proofs.YtmlncblocfcmiaaGreat
namespace Go.Proofs.YtmlncblocfcmiaaGreat
open Go.RowKit
variable {dd : Bool}
section
variable {α : Type} {e : TypeId} {enc : α → List Value} {k : Nat} {v : Value} {l : List α} {R : List (Nat × Obj)} {μ : km}
theorem kk.one (h : kk e enc k v l R) : v.oneCell' = true := by obtain ⟨A, c, rfl⟩ := h.form; rfl
theorem Sl.one {a : pj α} (h : Sl a k μ v l) : v.oneCell' = true := by obtain ⟨A, c, rfl⟩ := h.form; rfl
theorem Sl.isNil {d : pj α} {n c : Nat} (h : Sl d k μ (.slice none n c) l) : l = [] := by
 obtain ⟨A, j, h1, m, o, g⟩ := h
 cases h1
 rcases ek l.length with a | a
 ·exact dM.1 a
 ·obtain ⟨b, off, cs, T, fr, i, _⟩ := g a
  cases i
theorem kk.isNil {n c : Nat} (h : kk e enc k (.slice none n c) l R) : l = [] := by
 rcases h with ⟨h1, rfl, rfl⟩ | ⟨g, cap, a, h1, _⟩
 ·rfl
 ·cases h1
theorem ST.P6 {w W : World} {μ : km} {L1 L2 : List (Nat × Obj)} (h : ST dd kQ w W μ (L1 ++ L2)) : sI dd [] L1 w W :=
 sI.GV h.ex (fun b o a => ⟨(h.box b o (cF _ a)).1, by
  rcases (h.box b o (cF _ a)).2.2 with h | h
  ·exact h
  ·exact h.elim⟩) (by have := h.nd; rw [cD] at this; exact (bV.1 this).1)
theorem ST.PH {w W : World} {μ : km} {L0 L1 L2 : List (Nat × Obj)} (h : ST dd (keys L0) w W μ (L1 ++ L2)) : sI dd L0 L1 w W :=
 ⟨⟨h.os, h.tape, h.output, h.drawn, h.size, h.mh⟩, fun b o a => ⟨(h.box b o (cF _ a)).1, (h.box b o (cF _ a)).2.2⟩, by have := h.nd; rw [cD] at this; exact (bV.1 this).1⟩
end
end Go.Proofs.YtmlncblocfcmiaaGreat
namespace Go.Proofs.YtmlncblocfcmiaaGreat
open Go.RowKit
variable {dd : Bool}
def lg {κ β : Type} (beq : κ → κ → Bool) (l : List (κ × β)) (k : κ) : Option β := (l.find? (fun p => beq k p.1)).map (·.2)
def mS {κ β : Type} (beq : κ → κ → Bool) (l : List (κ × β)) (k : κ) (v : β) : List (κ × β) :=
 match l.findIdx? (fun p => beq k p.1) with
 | some i => l.set i (k, v)
 | none => l ++ [(k, v)]
structure tz {κ β : Type} (kenc : κ → Value) (vf : β → Value) (l : List (κ × β)) (es : Array MapEntry) (clock : Nat) : Prop where
 Dz : es.toList.map (fun e => (e.key, e.val)) = l.map (fun p => (kenc p.1, vf p.2))
 born : es.toList.Pairwise (fun a b => a.born < b.born)
 lt : ∀ e ∈ es.toList, e.born < clock
def lA {κ β : Type} (kenc : κ → Value) (vf : β → Value) (v : Value) (l : List (κ × β)) (R : List (Nat × Obj)) : Prop :=
 ∃ m es clock, v = .map (some m) ∧ R = [(m, .map es clock)] ∧ tz kenc vf l es clock
def uL {κ β : Type} (kenc : κ → Value) (vf : β → Value) (μ : km) (v : Value) (l : List (κ × β)) : Prop :=
 (v = .map none ∧ l = []) ∨ ∃ m es clock, v = .map (some m) ∧ μ m = some (.map es clock) ∧ tz kenc vf l es clock
theorem uL.mono {κ β : Type} {kenc : κ → Value} {vf : β → Value} {μ μ' : km} {v : Value} {l : List (κ × β)} (h : uL kenc vf μ v l) (c : kf μ μ') : uL kenc vf μ' v l := by
 rcases h with h | ⟨m, es, clock, h1, a, b⟩
 ·exact .inl h
 ·exact .inr ⟨m, es, clock, h1, c _ _ a, b⟩
theorem lA.at {κ β : Type} {kenc : κ → Value} {vf : β → Value} {μ : km} {v : Value} {l : List (κ × β)} {R : List (Nat × Obj)} (h : lA kenc vf v l R) (c : ∀ b o, (b, o) ∈ R → μ b = some o) : uL kenc vf μ v l := by
 obtain ⟨m, es, clock, rfl, rfl, a⟩ := h
 exact .inr ⟨m, es, clock, rfl, c _ _ (bM.2 rfl), a⟩
structure od {κ : Type} (P : Program) (kt : TypeId) (kenc : κ → Value) (beq : κ → κ → Bool) : Prop where
 check : ∀ b k W, (Instr.checkKey b 10000 kt (kenc k)).run P W = .ok () W
 find : ∀ (k : κ) (l : List κ) (es : List MapEntry), es.map (·.key) = l.map kenc → ∀ W, (Instr.findKey kt (kenc k) es).run P W = .ok ((l.findIdx? (fun x => beq k x)).bind fun i => (es[i]?).map fun e => (i, e.val)) W
 eq : ∀ k x, beq k x = true → kenc x = kenc k
 bits : ∀ k, Instr.sameBits 10000 (kenc k) (kenc k) = true
section
variable {P : Program} {W : World} {κ : Type} {kt : TypeId} {kenc : κ → Value} {beq : κ → κ → Bool}
theorem Bg (a : ∀ x y W, (Op.equal kt (kenc x) (kenc y)).run P W = .ok (beq x y) W) (k : κ) : ∀ (l : List κ) (es : List MapEntry) (i : Nat), es.map (·.key) = l.map kenc →
  (Instr.findAsking kt (kenc k) es i).run P W = .ok ((l.findIdx? (fun x => beq k x)).bind fun j => (es[j]?).map fun e => (i + j, e.val)) W
 | [], [], i, h => by simp [Instr.findAsking]
 | [], _ :: _, i, h => by simp at h
 | _ :: _, [], i, h => by simp at h
 | x :: l, e :: es, i, h => by
  simp only [bH, bE] at h
  obtain ⟨h1, b⟩ := h
  simp only [Instr.findAsking, cE, h1, a, bN, eL]
  cases c : beq k x with
  | true => simp
  | false =>
   simp only [aB, aM]
   rw [Bg a k l es (i + 1) b]
   cases l.findIdx? (fun x => beq k x) with
   | none => rfl
   | some j => simp [ep, Nat.add_comm 1 j]
theorem IF {kind : TypeDesc} (hk : ∀ a b, Instr.sameNow kind (.agg a) b = none) (a : Array Value) : ∀ (es : List MapEntry) (i : Nat), Instr.findNow kind (.agg a) es i = if es = [] then some none else none
 | [], i => by simp [Instr.findNow]
 | e :: es, i => by simp [Instr.findNow, hk]
theorem od.struct {enc : κ → List Value} {i : Array Field} (o : P.underlying kt = some (.struct i)) (n : ∀ d x y W, (Op.equalIn (d + 10) kt (.agg (enc x).toArray) (.agg (enc y).toArray)).run P W = .ok (beq x y) W) (m : ∀ b k W, (Instr.checkKey b 10000 kt (.agg (enc k).toArray)).run P W = .ok () W) (he : ∀ k x, beq k x = true → x = k) (j : ∀ k, Instr.sameBits 10000 (.agg (enc k).toArray) (.agg (enc k).toArray) = true) : od P kt (fun x => .agg (enc x).toArray) beq where
 check := m
 find := fun k l es h W => by
  have c : ∀ x y W, (Op.equal kt (.agg (enc x).toArray) (.agg (enc y).toArray)).run P W = .ok (beq x y) W := fun x y W => n 9990 x y W
  simp only [Instr.findKey, cE, aT o, bN]
  rw [IF (fun a b => by cases b <;> rfl)]
  by_cases g : es = []
  ·subst g
   have : l = [] := by simpa using h.symm
   subst this
   simp
  ·rw [aY g]
   dsimp only
   rw [show Instr.findAsking kt (.agg (enc k).toArray) es = Instr.findAsking kt (.agg (enc k).toArray) es 0 from rfl, Bg c k l es 0 h]
   simp
 eq := fun k x h => by rw [he k x h]
 bits := j
theorem mc {a b : ByteArray} : lh a b = true ↔ a = b := by
 unfold lh
 rw [fe, fe]
 constructor
 ·intro h
  have h1 : a.data.toList = b.data.toList := by simpa using h
  exact iU (Array.toList_inj.1 h1)
 ·rintro rfl
  simp
theorem Ad (a b : ByteArray) : (a == b) = lh a b := by
 rw [cP, mc]
 constructor
 ·intro h
  have h1 : (a.data == b.data) = true := h
  exact iU (by simpa using h1)
 ·rintro rfl
  show (a.data == a.data) = true
  simp
theorem AY (k : ByteArray) : ∀ (l : List ByteArray) (es : List MapEntry) (i : Nat), es.map (·.key) = l.map Value.string →
  Instr.findNow .string (.string k) es i = some ((l.findIdx? (fun x => lh k x)).bind fun j => (es[j]?).map fun e => (i + j, e.val))
 | [], [], i, h => by simp [Instr.findNow]
 | [], _ :: _, i, h => by simp at h
 | _ :: _, [], i, h => by simp at h
 | x :: l, e :: es, i, h => by
  simp only [bH, bE] at h
  obtain ⟨h1, a⟩ := h
  simp only [Instr.findNow, h1, Instr.sameNow, Ad, eL]
  cases b : lh k x with
  | true => simp
  | false =>
   simp only [aB, aM]
   rw [AY k l es (i + 1) a]
   cases l.findIdx? (fun x => lh k x) with
   | none => rfl
   | some j => simp [ep, Nat.add_comm 1 j]
theorem nk (a : P.underlying kt = some .string) (n : Nat) (b : Bool) (k : ByteArray) (W : World) : (Instr.checkKey b (n + 1) kt (.string k)).run P W = .ok () W := by
 simp [Instr.checkKey, aT a]
theorem od.string (a : P.underlying kt = some .string) : od P kt Value.string lh where
 check := fun b k W => nk a 9999 b k W
 find := fun k l es h W => by
  simp only [Instr.findKey, cE, aT a, bN]
  have := AY k l es 0 h
  rw [this]
  simp
 eq := fun k x h => by rw [mc.1 h]
 bits := fun k => by simp only [Instr.sameBits]; rw [Ad]; exact mc.2 rfl
variable {β : Type} {vf : β → Value} {E : Nat → Value} {d : Option Nat} {ty : TypeId} {pos : String} {af : Array Edge} {g : Option (Nat × Bool)} {F : Nat → Prop} {w : World} {μ : km} {L : List (Nat × Obj)}
theorem tz.keys {l : List (κ × β)} {es : Array MapEntry} {clock : Nat} (h : tz kenc vf l es clock) : es.toList.map (·.key) = (l.map (·.1)).map kenc := by
 have := aX (List.map Prod.fst) h.Dz
 simpa [fz] using this
theorem tz.length {l : List (κ × β)} {es : Array MapEntry} {clock : Nat} (h : tz kenc vf l es clock) : es.size = l.length := by
 have := aX List.length h.Dz
 simpa using this
theorem tz.get {l : List (κ × β)} {es : Array MapEntry} {clock : Nat} (h : tz kenc vf l es clock) (k : κ) :
  (((l.map (·.1)).findIdx? (fun x => beq k x)).bind fun i => (es.toList[i]?).map fun e => (i, e.val)) = (l.findIdx? (fun p => beq k p.1)).bind fun i => (l[i]?).map fun p => (i, vf p.2) := by
 rw [gb]
 show ((l.findIdx? (fun p => beq k p.1)).bind _) = _
 congr 1
 funext i
 have := aX (fun q => q[i]?) h.Dz
 simp only [eW] at this
 cases h1 : es.toList[i]? with
 | none => rw [h1] at this; cases a : l[i]? with
  | none => rfl
  | some p => rw [a] at this; cases this
 | some e => rw [h1] at this; cases a : l[i]? with
  | none => rw [a] at this; cases this
  | some p => rw [a] at this; simp at this; simp [this.2]
theorem wK (l : List (κ × β)) (k : κ) : lg beq l k = (l.findIdx? (fun p => beq k p.1)).bind fun i => (l[i]?).map (·.2) := by
 induction l with
 | nil => rfl
 | cons p l ih =>
  simp only [lg, fq, eL] at ih ⊢
  cases beq k p.1 with
  | true => rfl
  | false =>
   simp only [aB, aM]
   rw [ih]
   cases l.findIdx? (fun p => beq k p.1) <;> simp
theorem HS {t e : TypeId} {m x : Operand} {q z : Value} {l : List (κ × β)} {k : κ} (K : od P kt kenc beq) (n : P.underlying t = some (.map kt e)) (b : ∀ w, (zeroValue e).run P w = .ok z w) (hm : jP E m = q) (v : jP E x = kenc k) (s : uL kenc vf (hp W) q l) :
  lV P E ⟨d, .lookup t m x false, ty, pos, af, g⟩ W (((lg beq l k).map vf).getD z) W := by
 show (do pure (.value (← Instr.lookup t (jP E m) (jP E x) false)) : Sem Next).run P W = _
 rw [hm, v]
 rcases s with ⟨rfl, rfl⟩ | ⟨o, es, clock, rfl, u, c⟩
 ·have := K.find k [] [] rfl W
  simp [Instr.lookup, aT n, K.check, this, b W, lg]
 ·have a : W.heap[o]? = some (.map es clock) := u
  have r : (getObj o : Sem Obj).run P W = .ok (.map es clock) W := by simp [getObj, Sem.run, a]
  have h := K.find k _ _ c.keys W
  rw [c.get k] at h
  simp only [Instr.lookup, cE, aT n, bN, r, dq, K.check, h, wK]
  cases y : l.findIdx? (fun p => beq k p.1) with
  | none => simp [b W]
  | some i =>
   cases j : l[i]? with
   | none => simp [j, b W]
   | some p => simp [j]
theorem rc {l : List (κ × β)} {k : κ} {i : Nat} (h : l.findIdx? (fun p => beq k p.1) = some i) : ∃ p, l[i]? = some p ∧ beq k p.1 = true := by
 rw [ec] at h
 obtain ⟨h1, a, _⟩ := h
 exact ⟨l[i], cW h1, a⟩
theorem tz.put {l : List (κ × β)} {es : Array MapEntry} {clock : Nat} (h : tz kenc vf l es clock) (k : κ) (v : β) :
  match l.findIdx? (fun p => beq k p.1) with
  | some i => tz kenc vf (l.set i (k, v)) (es.modify i fun e => { e with key := kenc k, val := vf v }) clock
  | none => tz kenc vf (l ++ [(k, v)]) (es.push { key := kenc k, val := vf v, born := clock }) (clock + 1) := by
 cases o : l.findIdx? (fun p => beq k p.1) with
 | none =>
  refine ⟨?_, ?_, ?_⟩
  ·simp [h.Dz]
  ·simp only [Array.toList_push, cR]
   exact ⟨h.born, by simp, fun a ha b n => by simp at n; subst n; exact h.lt a ha⟩
  ·intro e he
   simp at he
   rcases he with he | rfl
   ·exact Nat.lt_succ_of_lt (h.lt e (by simpa using he))
   ·exact bI _
 | some i =>
  obtain ⟨p, hp, _⟩ := rc o
  have t : i < l.length := (bG.1 hp).1
  have c : (es.modify i fun e => { e with key := kenc k, val := vf v }).toList.map (·.born) = es.toList.map (·.born) := by
   apply ey
   intro j
   simp only [eW, dI, dQ]
   split
   ·cases es[j]? <;> simp
   ·rfl
  refine ⟨?_, ?_, ?_⟩
  ·apply ey
   intro j
   have g := aX (fun q => q[j]?) h.Dz
   simp only [eW, dI] at g
   simp only [eW, dI, dQ, eV]
   by_cases d : i = j
   ·subst d
    simp only [aW]
    rw [aZ t]
    cases r : es[i]? with
    | none => rw [r, hp] at g; cases g
    | some e => rfl
   ·rw [aY d, aY d]; exact g
  ·have := h.born
   rw [← eX (f := fun e : MapEntry => e.born) (R := (· < ·))] at this ⊢
   rw [c]; exact this
  ·intro e he
   have : e.born ∈ es.toList.map (·.born) := by rw [← c]; exact bB.2 ⟨e, he, rfl⟩
   obtain ⟨e', m, s⟩ := bB.1 this
   rw [← s]; exact h.lt e' m
theorem xj {W : World} {r : Nat} {es : Array MapEntry} {c : Nat} (b : W.heap[r]? = some (.map es c)) (a : Obj) : (setObj r a).run P W = .ok () (ChangeMaps.setBlock W r a) := by
 simp [setObj, Sem.run, b, ChangeMaps.setBlock]
theorem ST.setBlock {A B : List (Nat × Obj)} {b : Nat} {o : Obj} (h : ST dd F w W μ (A ++ (b, o) :: B)) (c : Obj) : ST dd F w (ChangeMaps.setBlock W b c) μ (A ++ (b, c) :: B) := by
 have d := (h.box b o (by simp)).1
 have a := ny d
 refine h.put ⟨rfl, rfl, rfl, aV _, by simp [ChangeMaps.setBlock]⟩ (fun k hk => ?_) ?_
 ·simp only [ChangeMaps.setBlock]
  rw [Array.getElem?_setIfInBounds_ne (fun e => hk e.symm)]
 ·simp only [ChangeMaps.setBlock]
  rw [Array.getElem?_setIfInBounds_self_of_lt a]
theorem ya {D : Value → World → Prop} (X : List (Nat × Obj)) {Y R : List (Nat × Obj)} {t e : TypeId} {m x y : Operand} {A : Value} {l : List (κ × β)} {k : κ} {v : β} (K : od P kt kenc beq) (J : P.underlying t = some (.map kt e)) (j : ST dd F w W μ (X ++ (R ++ Y))) (h : lA kenc vf A l R) (hm : jP E m = A) (M : jP E x = kenc k) (O : jP E y = vf v) (I : ∀ W' R', ST dd F w W' μ (X ++ (R' ++ Y)) → lA kenc vf A (mS beq l k v) R' → D undef W') : mL P E ⟨d, .mapUpdate t m x y, ty, pos, af, g⟩ W D := by
 obtain ⟨b, es, clock, rfl, rfl, s⟩ := h
 have u : W.heap[b]? = some (.map es clock) := (j.box b (.map es clock) (by simp)).1
 have G : (getObj b : Sem Obj).run P W = .ok (.map es clock) W := by simp [getObj, Sem.run, u]
 have n := K.find k _ _ s.keys W
 rw [s.get k] at n
 have a := s.put (beq := beq) k v
 have c : ∀ W', (Instr.mapUpdate t (.map (some b)) (kenc k) (vf v)).run P W = .ok () W' → (execOp (jP E) ⟨d, .mapUpdate t m x y, ty, pos, af, g⟩).run P W = .ok .skip W' := by
  intro W' L
  show (do Instr.mapUpdate t (jP E m) (jP E x) (jP E y); pure .skip : Sem Next).run P W = _
  rw [hm, M, O]
  simp [L]
 cases o : l.findIdx? (fun p => beq k p.1) with
 | none =>
  rw [o] at n a
  refine .inr (.inl ⟨ChangeMaps.setBlock W b (.map (es.push { key := kenc k, val := vf v, born := clock }) (clock + 1)), c _ ?_, I _ [(b, _)] (j.setBlock _) ⟨b, _, _, rfl, rfl, ?_⟩⟩)
  ·simp [Instr.mapUpdate, aT J, G, K.check, n, xj u]
  ·rw [mS, o]; exact a
 | some i =>
  obtain ⟨p, hp, z⟩ := rc o
  rw [o] at n a
  simp only [aA, hp, dP] at n
  have r : ((es[i]?).map (·.key)).getD (kenc k) = kenc k := by
   have := aX (fun q => q[i]?) s.keys
   simp only [eW, hp, dP, dI] at this
   rw [this]
   simp [K.eq k p.1 z]
  refine .inr (.inl ⟨ChangeMaps.setBlock W b (.map (es.modify i fun e => { e with key := kenc k, val := vf v }) clock), c _ ?_, I _ [(b, _)] (j.setBlock _) ⟨b, _, _, rfl, rfl, ?_⟩⟩)
  ·simp only [Instr.mapUpdate, cE, aT J, G, K.check, n, bN, r, Instr.keyThatStays, K.bits, aW, dq]
   exact xj u _
  ·rw [mS, o]; exact a
theorem CX {b : Value → World → Prop} {t : TypeId} (kenc : κ → Value) (vf : β → Value) (a : ST dd F w W μ L) (c : ∀ W' v R, ST dd F w W' μ (R ++ L) → lA kenc vf v [] R → b v W') : mL P E ⟨d, .makeMap t none, ty, pos, af, g⟩ W b :=
 .inl ⟨.map (some W.heap.size), W.alloc (.map #[] 0), by
   show (do pure (.value (← Instr.makeMap t none)) : Sem Next).run P W = _
   simp [Instr.makeMap, newObj, Sem.run], c _ _ [(W.heap.size, .map #[] 0)] (a.alloc _) ⟨_, _, _, rfl, rfl, ⟨rfl, by simp, by simp⟩⟩⟩
end
end Go.Proofs.YtmlncblocfcmiaaGreat
namespace Go.Proofs.YtmlncblocfcmiaaGreat
open Go.RowKit
variable {dd : Bool}
open Classical in
noncomputable def Co {α β : Type} (l : List α) (f : List α → Option β) : Option β :=
 if h : ∃ r, ∀ o, o.Perm l → f o = some r then some h.choose else none
theorem EK {α β : Type} {l : List α} {f : List α → Option β} {r : β} (h : ∀ o, o.Perm l → f o = some r) : Co l f = some r := by
 have a : ∃ r, ∀ o, o.Perm l → f o = some r := ⟨r, h⟩
 unfold Co
 rw [dif_pos a]
 have h1 := a.choose_spec l (.refl l)
 rw [h l (.refl l)] at h1
 exact h1.symm
end Go.Proofs.YtmlncblocfcmiaaGreat
namespace Go.Proofs.YtmlncblocfcmiaaGreat
open Go.RowKit
variable {dd : Bool}
def Pe {α β : Type} (P : Program) (fv : Value) (μ : km) (a : α → List Value) (b : β → Value) (pm : α → Option β) : Prop :=
 ∃ f caps, fv = .func (.func f) #[] caps ∧ (∀ args w, (callFunc f args).run P w = .ok (.enter f args) w) ∧ ∀ W x r, kf μ (hp W) → pm x = some r → ki true P f (a x ++ caps.toList) W (b r)
def wL {α β : Type} (P : Program) (fv : Value) (μ : km) (a : α → List Value) (b : β → Value) (pm : α → Option β) : Prop :=
 ∃ f first caps, fv = .func (.func f) first caps ∧ (∀ args w, (callFunc f args).run P w = .ok (.enter f args) w) ∧ ∀ W x r, kf μ (hp W) → pm x = some r → ki false P f (first.toList ++ (a x ++ caps.toList)) W (b r)
theorem wL.form {α β : Type} {P : Program} {fv : Value} {μ : km} {c : α → List Value} {d : β → Value} {pm : α → Option β} (h : wL P fv μ c d pm) : ∃ f a b, fv = .func f a b := let ⟨f, a, b, h, _⟩ := h; ⟨_, a, b, h⟩
section
variable {P : Program} {W : World} {E : Nat → Value} {d : Option Nat} {ty : TypeId} {pos : String} {af : Array Edge} {g : Option (Nat × Bool)} {F : Nat → Prop} {w : World} {μ μ0 : km} {L : List (Nat × Obj)}
theorem wL.mono {α β : Type} {fv : Value} {a : α → List Value} {b : β → Value} {pm : α → Option β} (h : wL P fv μ a b pm) (g : kf μ μ0) : wL P fv μ0 a b pm := by
 obtain ⟨f, first, caps, h1, c, d⟩ := h
 exact ⟨f, first, caps, h1, c, fun W x r h => d W x r (g.trans h)⟩
theorem Hl {α β : Type} {K : Value → World → Prop} {fv : Value} {b : α → List Value} {j : β → Value} {pm : α → Option β} {c : Operand} {ax : Array Operand} {ats : Array TypeId} (x : α) {r : β} (a : ST false F w W μ L) (o : wL P fv μ0 b j pm) (s : kf μ0 μ) (q : jP E c = fv) (ha : ax.map (jP E) ++ (#[] : Array Value) = (b x).toArray) (hm : pm x = some r) (h : ∀ W', ST false F w W' μ L → K (j r) W') : mL P E ⟨d, .call ⟨.value c, ax, ats⟩, ty, pos, af, g⟩ W K := by
 obtain ⟨f, first, caps, rfl, k, l⟩ := o
 have i : ax.map (jP E) = (b x).toArray := by simpa using ha
 refine .inr (.inr ⟨f, (first.toList ++ (b x ++ caps.toList)).toArray, ?_, dC (l W x r (s.trans a.jJ) hm) (fun _ _ ⟨m, n⟩ => ⟨_, m, h _ (a.E8 n)⟩)⟩)
 show (do let d ← resolve (jP E) ⟨.value c, ax, ats⟩ ty; invoke d.target d.args : Sem Next).run P W = _
 simp only [resolve, q, Deferred.ofValue, cE, dq, bN, invoke, i, k]
 congr 2
 simp
end
end Go.Proofs.YtmlncblocfcmiaaGreat
namespace Go.Proofs.YtmlncblocfcmiaaGreat
open Go.RowKit
variable {dd : Bool}
def Az (A : List (Nat × Obj)) : km := fun b => (A.find? (fun p => p.1 == b)).map (·.2)
theorem mf {A : List (Nat × Obj)} {W : World} (h : ∀ b o, (b, o) ∈ A → W.heap[b]? = some o) : ∀ b o, Az A b = some o → W.heap[b]? = some o := fun b o a => by
 unfold Az at a
 cases c : A.find? (fun p => p.1 == b) with
 | none => rw [c] at a; cases a
 | some p =>
  rw [c] at a
  cases a
  have h1 := fM c
  have d := jo c
  simp at d
  subst d
  exact h _ _ h1
theorem At.of {M : km} {b : Nat} {cs : Array Value} {T : TypeId} {fr : Nat × Nat} (h : M b = some (.cells cs T fr)) (ys : List Value) (c : cs.toList = ys) : At M (.pointer (some ⟨b, 0, none⟩)) ys :=
 ⟨b, 0, cs, T, fr, rfl, h, fun j y a => by subst c; simpa using a⟩
section
variable {F : Nat → Prop} {w W W' : World} {μ μ' : km} {L L0 L1 L2 : List (Nat × Obj)}
theorem ST.IK (h : ST dd F w W μ L) (a : L.Perm (L0 ++ L2)) : ∀ b o, (b, o) ∈ L2 → ta W L0 b = some o := fun b o c => by
 have h1 := (h.perm a).at_ (dR _ c)
 unfold ta
 rw [aY (Dn (h.perm a).nd c)]
 exact h1
theorem ST.held (h : ST dd F w W μ L) (a : L.Perm (L0 ++ L2)) : Cm L0 W := fun b o c => ((h.perm a).box b o (cF _ c)).1
theorem ST.OE (h : ST dd F w W μ L) (a : L.Perm (L0 ++ L2)) : (L0.map (·.1)).Nodup := by
 have := (h.perm a).nd
 rw [cD] at this
 exact (bV.1 this).1
theorem ST.Om (h : ST dd F w W μ L) (a : L.Perm (L0 ++ L2)) : kf μ (ta W L0) := (h.perm a).kY (fun _ hp => cF _ hp)
end
section
variable {P : Program} {E : Nat → Value} {W : World} {d : Option Nat} {ty : TypeId} {pos : String} {af : Array Edge} {g : Option (Nat × Bool)}
 {F : Nat → Prop} {w : World} {μ : km} {L : List (Nat × Obj)}
theorem NU {K : Value → World → Prop} {K' : Value → List (Nat × Obj) → World → Prop} {f : FuncId} {fv : Operand} {ax : Array Operand} {ats : Array TypeId} {caps : Array Value} {args : List Value} (L0 L2 : List (Nat × Obj)) (a : ST dd F w W μ L) (c : L.Perm (L0 ++ L2)) (m : jP E fv = .func (.func f) #[] caps) (he : ∀ args w, (callFunc f args).run P w = .ok (.enter f args) w) (ha : ax.map (jP E) ++ (#[] : Array Value) = args.toArray) (l : Cm L0 W → (L0.map (·.1)).Nodup → kf μ (ta W L0) → (∀ b o, (b, o) ∈ L2 → ta W L0 b = some o) → lC dd P f (args ++ caps.toList) W L0 K') (h : ∀ W' v μ' L1, ST dd F w W' μ' (L1 ++ L2) → kf μ μ' → Lo F w μ μ' → (∀ b, W.heap.size ≤ b → ∀ o, ta W' L1 b = some o → μ' b = some o) → K' v L1 W' → K v W') : mL P E ⟨d, .call ⟨.value fv, ax, ats⟩, ty, pos, af, g⟩ W K := by
 have i : ax.map (jP E) = args.toArray := by simpa using ha
 refine Dm (args := (args ++ caps.toList).toArray) m he (by rw [i]; simp) (dC (l (a.held c) (a.OE c) (a.Om c) (a.IK c)) (fun _ W' ⟨v, L1, h1, j, k⟩ => ⟨v, h1, h W' v _ L1 ((a.perm c).back j) ((a.perm c).Gt W' L1) ((a.perm c).HF W' L1) ?_ k⟩))
 intro b q o n
 unfold zT
 rw [aY (by omega)]
 exact n
theorem Sl.lift {α : Type} {enc : α → List Value} {k : Nat} {M μ' : km} {B : Nat} {v : Value} {l : List α} (h : Sl (Pl enc) k M v l) (q : Fr B v) (n : ∀ b, B ≤ b → ∀ o, M b = some o → μ' b = some o) : Sl (Pl enc) k μ' v l := by
 obtain ⟨A, c, h1, d, g, i⟩ := h
 refine ⟨A, c, h1, d, g, fun r => ?_⟩
 obtain ⟨b, off, cs, T, fr, a, j, m⟩ := i r
 exact ⟨b, off, cs, T, fr, a, n b (q b (by rw [h1, a]; rfl)) _ j, m⟩
theorem D7 {t : TypeId} (dd : Nat) {s u : Array TypeId} {b : Bool} (d : P.underlying t = some (.func s u b)) (f : Fn) (a c : Array Value) (W : World) : (Op.equalIn (dd + 1) t (.func f a c) .nilFunc).run P W = .ok false W := by
 simp [Op.equalIn, aT d]
end
def uM {κ β : Type} (beq : κ → κ → Bool) (l : List (κ × β)) (k : κ) (z : β) : β := (lg beq l k).getD z
section
variable {P : Program} {W : World} {κ β : Type} {kt : TypeId} {kenc : κ → Value} {beq : κ → κ → Bool} {vf : β → Value} {E : Nat → Value} {d : Option Nat} {ty : TypeId} {pos : String} {af : Array Edge} {g : Option (Nat × Bool)} {F : Nat → Prop} {w : World} {μ : km} {L R : List (Nat × Obj)} {v : Value} {left : List (κ × β)}
theorem wY {t e : TypeId} {m x : Operand} {a : Value} {l : List (κ × β)} {k : κ} {z : β} (K : od P kt kenc beq) (c : P.underlying t = some (.map kt e)) (j : ∀ w, (zeroValue e).run P w = .ok (vf z) w) (hm : jP E m = a) (i : jP E x = kenc k) (b : uL kenc vf (hp W) a l) :
  lV P E ⟨d, .lookup t m x false, ty, pos, af, g⟩ W (vf (uM beq l k z)) W := by
 have := HS (d := d) (ty := ty) (pos := pos) (af := af) (g := g) K c j hm i b
 rw [uM]
 cases h : lg beq l k with
 | none => rw [h] at this; exact this
 | some y => rw [h] at this; exact this
theorem lA.one {a : Value} {l : List (κ × β)} (h : lA kenc vf a l R) : a.oneCell' = true := by obtain ⟨m, es, clock, rfl, _⟩ := h; rfl
theorem lA.form {a : Value} {l : List (κ × β)} (h : lA kenc vf a l R) : ∃ m, a = .map (some m) := by obtain ⟨m, es, clock, rfl, _⟩ := h; exact ⟨m, rfl⟩
theorem lA.nd {a : Value} {l : List (κ × β)} (h : lA kenc vf a l R) : (R.map (·.1)).Nodup := by obtain ⟨m, es, clock, rfl, rfl, _⟩ := h; simp
end
def nh {α : Type} (l : List α) (i : Nat) (z : α) : List α := l.take i ++ List.replicate (l.length - i) z
theorem uv {α : Type} (l : List α) (i : Nat) (z : α) (h : i ≤ l.length) : (nh l i z).length = l.length := by simp [nh]; omega
theorem D0 {α : Type} (l : List α) (i : Nat) (z : α) (h : i ≤ l.length) : (nh l i z).take i = l.take i := by
 simp only [nh]
 rw [fg, dr (by simp; omega)]
 simp; omega
end Go.Proofs.YtmlncblocfcmiaaGreat
namespace Go.Proofs.YtmlncblocfcmiaaGreat
open Go.RowKit
theorem HQ {P : Program} {kt : TypeId} {k : IntKind} (a : P.underlying kt = some (.int k)) (n : Nat) (b : Bool) (k' : IntKind) (x : Int) (W : World) : (Instr.checkKey b (n + 1) kt (.int k' x)).run P W = .ok () W := by
 simp [Instr.checkKey, aT a]
theorem Gi {P : Program} {cs : Array Value} {b : Bool} {n : Nat} {W : World} : ∀ (l : List Field),
  (∀ f ∈ l, f.name ≠ "_" → ∃ v, (part f.type cs f.offset).run P W = .ok v W ∧ (Instr.checkKey b n f.type v).run P W = .ok () W) →
  ((forIn l PUnit.unit fun f (_ : PUnit) => do
   if f.name ≠ "_" then Instr.checkKey b n f.type (← part f.type cs f.offset)
   pure (ForInStep.yield PUnit.unit)) : Sem PUnit).run P W = .ok PUnit.unit W
 | [], _ => by simp
 | f :: l, h => by
  have ih := Gi l (fun f d => h f (eY _ d))
  simp only [List.forIn_cons, cE]
  by_cases a : f.name ≠ "_"
  ·obtain ⟨v, h1, c⟩ := h f (by simp) a
   simp only [aZ a, cE, h1, bN, c, dq]
   exact ih
  ·simp only [aY a, cE, dq, bN]
   exact ih
theorem sW {P : Program} {kt : TypeId} {a : Array Field} {l : List Field} {cs : Array Value} {b : Bool} {n : Nat} {W : World} (d : P.underlying kt = some (.struct a)) (c : a.toList = l) (h : ∀ f ∈ l, f.name ≠ "_" → ∃ v, (part f.type cs f.offset).run P W = .ok v W ∧ (Instr.checkKey b n f.type v).run P W = .ok () W) : (Instr.checkKey b (n + 1) kt (.agg cs)).run P W = .ok () W := by
 obtain ⟨a⟩ := a
 subst c
 simp only [Instr.checkKey, cE, aT d, bN, List.forIn_toArray]
 have := Gi (P := P) (cs := cs) (b := b) (n := n) (W := W) a h
 simp only [cE] at this
 first | rw [this]; rfl | simpa using this
end Go.Proofs.YtmlncblocfcmiaaGreat
namespace Go.Proofs.YtmlncblocfcmiaaGreat
open Go.RowKit
variable {dd : Bool}
def qj (b : Bool) : Option Unit := if b = true then some () else none
theorem HV {b : Bool} {u : Unit} (h : qj b = some u) : b = true := by
 unfold qj at h; split at h
 ·assumption
 ·cases h
theorem rp {a c : Int} {u : Unit} (h : qj (decide (0 ≤ a) && decide (a ≤ c)) = some u) : 0 ≤ a := by have := HV h; simp at this; exact this.1
theorem ry {a c : Int} {u : Unit} (h : qj (decide (0 ≤ a) && decide (a ≤ c)) = some u) : a ≤ c := by have := HV h; simp at this; exact this.2
def yM (k : Nat) (v : Value) (i : Nat) (u : Value) : Prop := ∃ A n c A' a, v = .slice A n c ∧ u = .slice A' (n - i) a ∧ i ≤ n ∧ (i < n → ∃ b o, A = some ⟨b, o, none⟩ ∧ A' = some ⟨b, o + i * k, none⟩)
section
variable {P : Program} {E : Nat → Value} {W : World} {d : Option Nat} {ty : TypeId} {pos : String} {af : Array Edge} {g : Option (Nat × Bool)}
 {F : Nat → Prop} {w : World} {μ : km} {L : List (Nat × Obj)} {α : Type} {e' : TypeId} {enc : α → List Value} {k : Nat} {v : Value} {l : List α} {R : List (Nat × Obj)}
theorem tg {t e : TypeId} {x a : Operand} {y : IntKind} {i : Int} (m : P.underlying t = some (.slice e)) (he : ∀ w, (sizeOf e).run P w = .ok k w) (n : jP E x = v) (c : jP E a = .int y i) (h : kk e' enc k v l R) (q : 0 ≤ i) (j : i ≤ l.length) :
  ∃ u, yM k v i.toNat u ∧ ∀ W, lV P E ⟨d, .slice t x (some a) none none, ty, pos, af, g⟩ W u W := by
 rcases h with ⟨rfl, rfl, rfl⟩ | ⟨b, cap, o, rfl, rfl, h1, z, A, D⟩
 ·have : i = 0 := by simp at j; omega
  subst this
  refine ⟨.slice none 0 0, ⟨none, 0, 0, none, 0, rfl, rfl, aV _, fun h => absurd h (by simp)⟩, fun W => ?_⟩
  show (do pure (.value (← Instr.sliceAt t (jP E x) (some (jP E a)) none none)) : Sem Next).run P W = _
  rw [n, c]
  simp [Instr.sliceAt, Instr.slice, Instr.sliceBounds, Instr.sliceBound, asIntOf, aT m, he W]
 ·refine ⟨.slice (some (if cap = i.toNat then ⟨b, 0, none⟩ else (Addr.add ⟨b, 0, none⟩ (i.toNat * k)))) (l.length - i.toNat) (cap - i.toNat), ⟨_, _, _, _, _, rfl, rfl, by omega, fun s => ⟨b, 0, rfl, ?_⟩⟩, fun W => ?_⟩
  ·rw [aY (by omega)]; simp [dJ]
  ·show (do pure (.value (← Instr.sliceAt t (jP E x) (some (jP E a)) none none)) : Sem Next).run P W = _
   rw [n, c]
   have r : 0 ≤ i ∧ i ≤ (l.length : Int) := ⟨q, j⟩
   simp [Instr.sliceAt, Instr.slice, Instr.sliceBounds, Instr.sliceBound, asIntOf, aT m, he W, r]
   split <;> rfl
theorem vg {i j : Nat} {x0 : α} (h : (l.drop i)[j]? = some x0) : l[i + j]? = some x0 := by rwa [dO] at h
theorem CN {t e : TypeId} {x : Operand} {u : Value} {i : Nat} (j : P.underlying t = some (.slice e)) (m : jP E x = u) (hu : yM k v i u) (h : kk e' enc k v l R) : lV P E ⟨d, .call ⟨.builtin .len, #[x], #[t]⟩, ty, pos, af, g⟩ W (.int .i64 ((l.length - i : Nat) : Int)) W := by
 obtain ⟨A, n, c, A', o, h1, b, r, _⟩ := hu
 subst b
 have : n = l.length := by
  rcases h with ⟨rfl, rfl, rfl⟩ | ⟨q, cap, a, rfl, rfl, _⟩
  ·cases h1; rfl
  ·cases h1; rfl
 subst this
 exact xU j m
theorem tf {t e : TypeId} {x m : Operand} {M : IntKind} {i : Int} {x0 : α} {u : Value} {o : Nat} (J : P.underlying t = some (.slice e)) (he : ∀ w, (sizeOf e).run P w = .ok k w) (L : jP E x = u) (G : jP E m = .int M i) (h : kk e' enc k v l R) (hu : yM k v o u) (z : 0 ≤ i) (I : (l.drop o)[i.toNat]? = some x0) :
  ∃ p, zK R k p (o + i.toNat) ∧ ∀ W, lV P E ⟨d, .indexAddr t x m, ty, pos, af, g⟩ W p W := by
 have a := vg I
 have j : o + i.toNat < l.length := (bG.1 a).1
 rcases h with ⟨rfl, rfl, rfl⟩ | ⟨y, cap, q, rfl, rfl, h1, Q, T, U⟩
 ·simp at j
 obtain ⟨A, n, c, A', O, r, rfl, Y, D⟩ := hu
 cases r
 obtain ⟨b, Z, s, rfl⟩ := D (by omega)
 cases s
 refine ⟨.pointer (some ⟨y, (o + i.toNat) * k, none⟩), ⟨_, _, rfl, rfl⟩, fun W => ?_⟩
 show (do pure (.value (← Instr.indexAt t (jP E x) (jP E m))) : Sem Next).run P W = _
 rw [L, G]
 have F : 0 ≤ i ∧ i < ((l.length - o : Nat) : Int) := ⟨z, by omega⟩
 simp [Instr.indexAt, asIntOf, aT J, he W, F, dJ, cN]
theorem AH (ys : List Value) (m : Nat) : (Builtin.zeroCells ys.toArray m).toList = (List.replicate m ys).flatten := by
 unfold Builtin.zeroCells
 simp only [Array.toList_map, Array.toList_range, dK]
 rcases ek ys.length with a | a
 ·have : ys = [] := dM.1 a
  subst this
  simp
 apply ey
 intro q
 by_cases c : q < m * ys.length
 ·have h1 : q / ys.length < m := (gp a).2 c
  have b : q % ys.length < ys.length := Nat.mod_lt _ a
  have := uX (enc := fun _ : Unit => ys) (fun _ => rfl) (List.replicate m ()) (q / ys.length) () (by simp [h1]) (q % ys.length) ys[q % ys.length] (by simp [b])
  rw [Nat.div_add_mod' q ys.length] at this
  rw [gU] at this
  rw [this]
  simp [c, b]
 ·rw [fy (by simp; omega), fy (by simp; omega)]
theorem Ip {K : Value → World → Prop} (z : α) (X : List (Nat × Obj)) {Y : List (Nat × Obj)} {t e : TypeId} {x : Operand} {u Z : Value} {i : Nat} (q : ST dd F w W μ (X ++ (R ++ Y))) (h : kk e' enc k v l R) (hk : ∀ x, (enc x).length = k) (h1 : ∀ x, ∀ u ∈ enc x, u.oneCell' = true) (O : P.underlying t = some (.slice e)) (hz : ∀ w, (zeroValue e).run P w = .ok Z w) (hu : yM k v i u) (hc : Z.cells = (enc z).toArray) (hx : jP E x = u) (L : ∀ W' R', ST dd F w W' μ (X ++ (R' ++ Y)) → kk e' enc k v (nh l i z) R' → K (.tuple #[]) W') : mL P E ⟨d, .call ⟨.builtin .clear, #[x], #[t]⟩, ty, pos, af, g⟩ W K := by
 have j : ∀ (W' : World), (Builtin.clear_ #[t] ty #[u]).run P W = .ok (.tuple #[]) W' → (execOp (jP E) ⟨d, .call ⟨.builtin .clear, #[x], #[t]⟩, ty, pos, af, g⟩).run P W = .ok (.value (.tuple #[])) W' := by
  intro W' hV
  show (do let d ← resolve (jP E) ⟨.builtin .clear, #[x], #[t]⟩ ty; invoke d.target d.args : Sem Next).run P W = _
  simp [resolve, invoke, builtin, hx, hV]
 obtain ⟨A, n, c, A', c', e1, rfl, D, h8⟩ := hu
 rcases h with ⟨rfl, rfl, rfl⟩ | ⟨s, cap, a, rfl, rfl, U, q2, I, q4⟩
 ·cases e1
  refine .inl ⟨_, W, j W ?_, L W [] q (by simpa [nh] using kk.nil e' enc k)⟩
  simp only [Builtin.clear_, Nat.zero_sub]
  cases A' <;> simp [aT O]
 ·cases e1
  by_cases hi : i < l.length
  ·obtain ⟨b, o, e2, rfl⟩ := h8 hi
   cases e2
   have T : ∀ m, (Builtin.zeroCells Z.cells m).toList = (List.replicate m (enc z)).flatten := by
    intro m
    rw [hc]; exact AH _ _
   have hb := (q.box s (.cells a e' (0, 0)) (by simp)).1
   have hle : i * k + (l.length - i) * k = l.length * k := by rw [← cN]; congr 1; omega
   have hlen : l.length * k ≤ c * k := cO _ U
   have r : ((List.replicate (l.length - i) (enc z)).flatten).length = (l.length - i) * k := by simp [hk]
   have y : ∀ v ∈ (List.replicate (l.length - i) (enc z)).flatten, v.oneCell' = true := by
    intro v G
    obtain ⟨ys, Q, G⟩ := iW.1 G
    rw [(List.mem_replicate.1 Q).2] at G
    exact h1 z v G
   have hs := iz (P := P) s (i * k) e' ((List.replicate (l.length - i) (enc z)).flatten) 0 a W hb (by rw [r, I]; omega) y
   rw [jh, r, hle] at hs
   refine .inl ⟨_, W.setRow s (a.toList.take (i * k) ++ (List.replicate (l.length - i) (enc z)).flatten ++ a.toList.drop (l.length * k)).toArray, j _ ?_, L _ [(s, .cells (a.toList.take (i * k) ++ (List.replicate (l.length - i) (enc z)).flatten ++ a.toList.drop (l.length * k)).toArray e' (0, 0))] (q.store _) (.inr ⟨s, c, _, by rw [uv _ _ _ D], rfl, by rw [uv _ _ _ D]; exact U, q2, ?_, ?_⟩)⟩
   ·have hn : l.length - i = (l.length - i - 1) + 1 := by omega
    simp only [Builtin.clear_]
    rw [hn]
    simp only [aT O, cE, bN, List.getElem?_toArray, fW, hz, fj]
    rw [← hn, T, hs]
    simp
   ·have J : a.toList.length = c * k := by simpa using I
    rw [dK, aD, aD, cY, gu, r, J, dE (by omega)]
    omega
   ·rw [uv _ _ _ D, nh, cD, cQ, CM hk l i D, ← q4, ga, dE (by omega), gU]
    have J : a.toList.length = c * k := by simpa using I
    have e3 : (a.toList.take (i * k) ++ (List.replicate (l.length - i) (enc z)).flatten).length = l.length * k := by rw [aD, cY, r, J, dE (by omega)]; omega
    show List.take (l.length * k) (a.toList.take (i * k) ++ (List.replicate (l.length - i) (enc z)).flatten ++ a.toList.drop (l.length * k)) = _
    rw [fg, dr (by rw [e3]; exact aV _), e3, Nat.sub_self]
    simp
  ·have M : i = l.length := by omega
   subst M
   refine .inl ⟨_, W, j W ?_, L W _ q ?_⟩
   ·simp only [Builtin.clear_, Nat.sub_self]
    cases A' <;> simp [aT O]
   ·simp only [nh, List.take_length, Nat.sub_self, List.replicate_zero, bP]
    exact .inr ⟨s, c, a, rfl, rfl, U, q2, I, q4⟩
end
end Go.Proofs.YtmlncblocfcmiaaGreat
namespace Go.Proofs.YtmlncblocfcmiaaGreat
open Go.RowKit
variable {dd : Bool}
section
variable {P : Program} {E : Nat → Value} {W : World} {d : Option Nat} {ty : TypeId} {pos : String} {af : Array Edge} {g : Option (Nat × Bool)}
 {F : Nat → Prop} {w : World} {μ : km} {L : List (Nat × Obj)}
theorem J0 {K : Value → World → Prop} {f : FuncId} {fv : Operand} {ax : Array Operand} {ats : Array TypeId} {args : List Value} {v : Value} (b : jP E fv = .func (.func f) #[] #[]) (ha : ax.map (jP E) ++ (#[] : Array Value) = args.toArray) (c : (callFunc f args.toArray).run P W = .ok (.value v) W) (h : K v W) : mL P E ⟨d, .call ⟨.value fv, ax, ats⟩, ty, pos, af, g⟩ W K := by
 have a : ax.map (jP E) = args.toArray := by simpa using ha
 refine .inl ⟨v, W, ?_, h⟩
 show (do let d ← resolve (jP E) ⟨.value fv, ax, ats⟩ ty; invoke d.target d.args : Sem Next).run P W = _
 simp only [resolve, b, Deferred.ofValue, cE, dq, bN, invoke]
 rw [a]
 simpa using c
def vq (s : ByteArray) (c : Int) : Int := Lib.indexByte s.data.toList c.toNat.toUInt8
def oN (a b : ByteArray) : Int := Lib.compareBytes a.data.toList b.data.toList
def tU (l : List Int) : List UInt8 := l.map fun x => x.toNat.toUInt8
def wO (a b : List Int) : Int := Lib.compareBytes (tU a) (tU b)
theorem FI {f : FuncId} {fn : Func} (d : P.funcs[f]? = some fn) (a : (fn.name == "runtime.NumGoroutine") = false) (b : fn.body.isNone = true) (g : Extern.findNext fn = none) (he : Extern.find fn = some Extern.BytealgIndexByte.indexByte) (s : ByteArray) (c : Int) (w : World) :
  (callFunc f [Value.string s, .int .u8 c].toArray).run P w = .ok (.value (.int .i64 (vq s c))) w := by
 rw [gJ d a b g he]
 rw [Lib.run_indexByteString]
 rfl
theorem M0 {f : FuncId} {fn : Func} (g : P.funcs[f]? = some fn) (c : (fn.name == "runtime.NumGoroutine") = false) (d : fn.body.isNone = true) (h : Extern.findNext fn = none) (he : Extern.find fn = some Extern.BytealgCompare.compare) (a b : ByteArray) (w : World) :
  (callFunc f [Value.string a, .string b].toArray).run P w = .ok (.value (.int .i64 (oN a b))) w := by
 rw [gJ g c d h he]
 rw [Lib.run_compareString]
 rfl
theorem B5 {v : Value} {l : List Int} (h : Sl (Pl (kU .u8)) 1 (hp W) v l) : (Extern.Bytes.bytesOf v).run P W = .ok ⟨(tU l).toArray⟩ W := by
 obtain ⟨A, c, rfl, o, q, i⟩ := h
 rcases ek l.length with a | a
 ·have : l = [] := dM.1 a
  subst this
  cases A <;> simp [Extern.Bytes.bytesOf, Extern.Bytes.loadBytes, tU] <;> rfl
 ·obtain ⟨b, off, cs, T, fr, rfl, k, m⟩ := i a
  have := Lib.run_loadBytesX (P := P) W l ⟨b, off, none⟩ .empty (fun j x n => by
   obtain ⟨ys, _, g, d⟩ := m j x n
   cases g
   rw [dJ, fV W b (off + j) cs T fr k]
   have := d 0 (.int .u8 x) rfl
   simpa using this)
  simp only [Extern.Bytes.bytesOf]
  rw [this]
  congr 1
  apply iU
  show (#[] : Array UInt8) ++ _ = _
  simp [Lib.bytesOf, tU]
theorem Mp {f : FuncId} {fn : Func} (j : P.funcs[f]? = some fn) (c : (fn.name == "runtime.NumGoroutine") = false) (i : fn.body.isNone = true) (k : Extern.findNext fn = none) (he : Extern.find fn = some Extern.BytealgCompare.compare) {d g : Value} {a b : List Int} (h1 : Sl (Pl (kU .u8)) 1 (hp W) d a) (h : Sl (Pl (kU .u8)) 1 (hp W) g b) :
  (callFunc f [d, g].toArray).run P W = .ok (.value (.int .i64 (wO a b))) W := by
 rw [gJ j c i k he]
 have : (Extern.BytealgCompare.compare [d, g].toArray).run P W = .ok (.int .i64 (wO a b)) W := by
  change Sem.run P (do pure (goInt (Extern.BytealgCompare.cmp (← Extern.Bytes.bytesOf d) (← Extern.Bytes.bytesOf g)))) W = _
  simp only [cE, B5 h1, B5 h, dq, Result.andThen]
  rw [Lib.cmp_eq]
  rfl
 rw [this]
 rfl
theorem qX {fn : Fn} {caps : Array Operand} {cs : List Value} {v : Value} (a : caps.map (jP E) ++ (#[] : Array Value) = cs.toArray) (b : .func fn #[] cs.toArray = v) : lV P E ⟨d, .makeFunc fn #[] caps, ty, pos, af, g⟩ W v W := by
 have : caps.map (jP E) = cs.toArray := by simpa using a
 exact Kd (by rw [this]; simpa using b)
theorem lC.mono {f : FuncId} {args : List Value} {L0 : List (Nat × Obj)} {K K' : Value → List (Nat × Obj) → World → Prop} (h : lC dd P f args w L0 K) (hk : ∀ v L1 W', K v L1 W' → K' v L1 W') : lC dd P f args w L0 K' :=
 dC h (fun _ _ ⟨v, L1, h1, a, b⟩ => ⟨v, L1, h1, a, hk _ _ _ b⟩)
end
section
variable {α : Type}
def tb (cf : α × α → Option Int) (x y : α) : Bool := match cf (x, y) with
 | some c => decide (c < 0)
 | none => false
structure CR (cf : α × α → Option Int) (l : List α) : Prop where
 is : ∀ x ∈ l, ∀ y ∈ l, ∃ c, cf (x, y) = some c
 irrefl : ∀ x ∈ l, tb cf x x = false
 trans : ∀ x ∈ l, ∀ y ∈ l, ∀ z ∈ l, tb cf x y = true → tb cf y z = true → tb cf x z = true
 total : ∀ x ∈ l, ∀ y ∈ l, tb cf x y = false → tb cf y x = false → x = y
 short : l.length < 4611686018427387904
def sn (cf : α × α → Option Int) (l : List α) : List α := l.mergeSort fun x y => !tb cf y x
open Classical in
noncomputable def wE (cf : α × α → Option Int) (l : List α) : Option (List α) := if CR cf l then some (sn cf l) else none
theorem Fj {cf : α × α → Option Int} {l r : List α} (h : wE cf l = some r) : CR cf l ∧ r = sn cf l := by
 unfold wE at h
 split at h
 ·rename_i a; cases h; exact ⟨a, rfl⟩
 ·cases h
theorem MQ {cf : α × α → Option Int} {l : List α} (h : CR cf l) : wE cf l = some (sn cf l) := by
 unfold wE; rw [aZ h]
def tL (l : List ByteArray) : List ByteArray := l.mergeSort fun x y => !pV y x
end
end Go.Proofs.YtmlncblocfcmiaaGreat
namespace Go.Proofs.YtmlncblocfcmiaaGreat
open Go.RowKit
section
variable {P : Program} {E : Nat → Value} {W : World} {d : Option Nat} {ty : TypeId} {pos : String} {af : Array Edge} {g : Option (Nat × Bool)}
theorem OD {x y : Operand} {ats : Array TypeId} {k : IntKind} {a b : Int} (c : jP E x = .int k a) (h : jP E y = .int k b) :
  lV P E ⟨d, .call ⟨.builtin .min, #[x, y], ats⟩, ty, pos, af, g⟩ W (.int k (if b < a then b else a)) W := by
 show (do let d ← resolve (jP E) ⟨.builtin .min, #[x, y], ats⟩ ty; invoke d.target d.args : Sem Next).run P W = _
 simp [resolve, invoke, c, h, builtin, Builtin.min_, Builtin.min2]
end
end Go.Proofs.YtmlncblocfcmiaaGreat
namespace Go.Proofs.YtmlncblocfcmiaaGreat
open Go.RowKit
variable {dd : Bool}
def vm {κ γ : Type} (Q : Value → γ → List (Nat × Obj) → Prop) : List (κ × Value) → List (κ × γ) → List (Nat × Obj) → Prop
 | [], [], R => R = []
 | p :: a, q :: l, R => p.1 = q.1 ∧ ∃ R1 R2, R = R1 ++ R2 ∧ Q p.2 q.2 R1 ∧ vm Q a l R2
 | _, _, _ => False
def my {κ γ : Type} (kenc : κ → Value) (Q : Value → γ → List (Nat × Obj) → Prop) (v : Value) (c : List (κ × Value)) (l : List (κ × γ)) (R : List (Nat × Obj)) : Prop :=
 ∃ a b, R = a ++ b ∧ lA kenc (fun x => x) v c a ∧ vm Q c l b
section
variable {κ γ : Type} {Q : Value → γ → List (Nat × Obj) → Prop} {beq : κ → κ → Bool} {kenc : κ → Value}
theorem vm.keys : ∀ {a : List (κ × Value)} {l : List (κ × γ)} {R : List (Nat × Obj)}, vm Q a l R → a.map (·.1) = l.map (·.1)
 | [], [], _, _ => rfl
 | [], _ :: _, _, h => h.elim
 | _ :: _, [], _, h => h.elim
 | p :: a, q :: l, R, h => by
  obtain ⟨h1, R1, R2, _, _, b⟩ := h
  simp [h1, vm.keys b]
theorem vm.find {a : List (κ × Value)} {l : List (κ × γ)} {R : List (Nat × Obj)} (h : vm Q a l R) (k : κ) : a.findIdx? (fun p => beq k p.1) = l.findIdx? (fun p => beq k p.1) := by
 have h1 : (a.map (·.1)).findIdx? (fun x => beq k x) = (l.map (·.1)).findIdx? (fun x => beq k x) := by rw [h.keys]
 rw [gb, gb] at h1
 exact h1
theorem vm.get : ∀ {b : List (κ × Value)} {l : List (κ × γ)} {R : List (Nat × Obj)}, vm Q b l R → ∀ (i : Nat) (k : κ) (x : γ), l[i]? = some (k, x) →
  ∃ v A R1 B, b[i]? = some (k, v) ∧ R = A ++ (R1 ++ B) ∧ Q v x R1 ∧ ∀ k2 v2 x2 R2, Q v2 x2 R2 → vm Q (b.set i (k2, v2)) (l.set i (k2, x2)) (A ++ (R2 ++ B))
 | [], [], _, _, i, k, x, a => by simp at a
 | [], _ :: _, _, h, _, _, _, _ => h.elim
 | _ :: _, [], _, h, _, _, _, _ => h.elim
 | p :: b, q :: l, R, h, 0, k, x, a => by
  obtain ⟨h1, R1, R2, rfl, c, d⟩ := h
  simp at a
  subst a
  refine ⟨p.2, [], R1, R2, by simp only [fW]; exact aX some (Prod.ext h1 rfl), rfl, c, fun k2 v2 x2 R2' g => ⟨rfl, R2', R2, rfl, g, d⟩⟩
 | p :: b, q :: l, R, h, i + 1, k, x, a => by
  obtain ⟨h1, R1, R2, rfl, c, d⟩ := h
  simp at a
  obtain ⟨v, A, R1', B, g1, rfl, g3, g4⟩ := vm.get d i k x a
  exact ⟨v, R1 ++ A, R1', B, by simpa using g1, by simp, g3, fun k2 v2 x2 R2' g => ⟨h1, R1, A ++ (R2' ++ B), by simp, c, g4 k2 v2 x2 R2' g⟩⟩
theorem vm.push : ∀ {b : List (κ × Value)} {l : List (κ × γ)} {R : List (Nat × Obj)}, vm Q b l R → ∀ (k : κ) {v : Value} {x : γ} {R1 : List (Nat × Obj)}, Q v x R1 → vm Q (b ++ [(k, v)]) (l ++ [(k, x)]) (R ++ R1)
 | [], [], _, h, k, v, x, R1, a => by
  have g : _ = [] := h
  subst g
  exact ⟨rfl, R1, [], by simp, a, rfl⟩
 | [], _ :: _, _, h, _, _, _, _, _ => h.elim
 | _ :: _, [], _, h, _, _, _, _, _ => h.elim
 | p :: b, q :: l, R, h, k, v, x, R1, a => by
  obtain ⟨h1, c, d, rfl, i, j⟩ := h
  exact ⟨h1, c, d ++ R1, by simp, i, vm.push j k a⟩
theorem my.found {r : Value} {c : List (κ × Value)} {l : List (κ × γ)} {R : List (Nat × Obj)} (hk : ∀ {x y : κ}, beq x y = true → x = y) (h : my kenc Q r c l R) {k : κ} {x : γ} (b : lg beq l k = some x) :
  ∃ v A R1 B, lg beq c k = some v ∧ R = A ++ (R1 ++ B) ∧ Q v x R1 ∧ (∀ x2 R2, Q v x2 R2 → my kenc Q r c (mS beq l k x2) (A ++ (R2 ++ B))) := by
 obtain ⟨o, w, rfl, s, q⟩ := h
 rw [wK] at b
 cases d : l.findIdx? (fun p => beq k p.1) with
 | none => rw [d] at b; cases b
 | some i =>
  rw [d] at b
  obtain ⟨p, hp, t⟩ := rc d
  simp only [aA, hp, dP, gd] at b
  subst b
  have n := hk t
  obtain ⟨v, A, R1, B, g1, rfl, g3, g4⟩ := q.get i p.1 p.2 hp
  have g : c.findIdx? (fun p => beq k p.1) = some i := by rw [q.find k, d]
  refine ⟨v, o ++ A, R1, B, by rw [wK, g]; simp [g1], by simp, g3, fun x2 R2 u => ⟨o, A ++ (R2 ++ B), by simp, s, ?_⟩⟩
  have a := g4 k v x2 R2 u
  have e : c.set i (k, v) = c := by
   apply ey
   intro j
   rw [eV]
   split
   ·rename_i m
    subst m
    rw [g1, n]
    simp [(bG.1 g1).1]
   ·rfl
  rw [e] at a
  rw [mS, d]
  exact a
theorem my.JC {g : Value} {c : List (κ × Value)} {l : List (κ × γ)} {R : List (Nat × Obj)} (h : my kenc Q g c l R) {k : κ} (a : lg beq l k = none) : lg beq c k = none := by
 obtain ⟨j, m, rfl, n, d⟩ := h
 rw [wK] at a ⊢
 rw [d.find k]
 cases b : l.findIdx? (fun p => beq k p.1) with
 | none => rfl
 | some i =>
  rw [b] at a
  obtain ⟨p, hp, o⟩ := rc b
  simp [hp] at a
def qz (beq : κ → κ → Bool) (a : List (κ × Value)) (k : κ) (z : Value) : Value := (lg beq a k).getD z
variable {P : Program} {W : World} {kt : TypeId} {E : Nat → Value} {d : Option Nat} {ty : TypeId} {pos : String} {af : Array Edge} {g : Option (Nat × Bool)} {F : Nat → Prop} {w : World} {μ : km} {L : List (Nat × Obj)}
theorem oP {t e : TypeId} {m x : Operand} {c z : Value} {a : List (κ × Value)} {l : List (κ × γ)} {R : List (Nat × Obj)} {k : κ} (K : od P kt kenc beq) (r : P.underlying t = some (.map kt e)) (u : ∀ w, (zeroValue e).run P w = .ok z w) (hm : jP E m = c) (s : jP E x = kenc k) (n : my kenc Q c a l R) (q : ∀ b o, (b, o) ∈ R → W.heap[b]? = some o) : lV P E ⟨d, .lookup t m x false, ty, pos, af, g⟩ W (qz beq a k z) W := by
 obtain ⟨v, y, rfl, i, A⟩ := n
 have j := HS (d := d) (ty := ty) (pos := pos) (af := af) (g := g) K r u hm s (i.at (μ := hp W) (fun b o h => q b o (cF _ h)))
 simpa [qz] using j
variable {κ2 β : Type} {kenc2 : κ2 → Value} {vf : β → Value} {beq2 : κ2 → κ2 → Bool} {kt2 : TypeId}
theorem my.BE {i : Value} {c : List (κ × Value)} {l : List (κ × List (κ2 × β))} {R : List (Nat × Obj)} (hk : ∀ {x y : κ}, beq x y = true → x = y) (h : my kenc (lA kenc2 vf) i c l R) (k : κ) {μ : km} (d : ∀ b o, (b, o) ∈ R → μ b = some o) :
  uL kenc2 vf μ (qz beq c k (.map none)) ((lg beq l k).getD []) := by
 cases a : lg beq l k with
 | none => rw [qz, h.JC a]; exact .inl ⟨rfl, rfl⟩
 | some x =>
  obtain ⟨v, A, R1, B, g1, rfl, g3, _⟩ := h.found hk a
  rw [qz, g1]
  exact g3.at (fun b o g => d b o (by simp [g]))
theorem my.isNil {c : Value} {b : List (κ × Value)} {l : List (κ × List (κ2 × β))} {R : List (Nat × Obj)} (hk : ∀ {x y : κ}, beq x y = true → x = y) (h : my kenc (lA kenc2 vf) c b l R) (k : κ) :
  ∃ r, qz beq b k (.map none) = .map r ∧ r.isNone = (lg beq l k).isNone := by
 cases a : lg beq l k with
 | none => rw [qz, h.JC a]; exact ⟨none, rfl, rfl⟩
 | some x =>
  obtain ⟨v, A, R1, B, g1, rfl, g3, _⟩ := h.found hk a
  obtain ⟨m, es, clock, rfl, _⟩ := g3
  rw [qz, g1]
  exact ⟨_, rfl, rfl⟩
def Eu {κ κ2 β : Type} (beq : κ → κ → Bool) (beq2 : κ2 → κ2 → Bool) (l : List (κ × List (κ2 × β))) (k : κ) (k2 : κ2) (x : β) : Option (List (κ × List (κ2 × β))) := (lg beq l k).map fun a => mS beq l k (mS beq2 a k2 x)
def EG {κ γ : Type} (beq : κ → κ → Bool) (l : List (κ × γ)) (k : κ) (x : γ) : Option (List (κ × γ)) := if (lg beq l k).isNone then some (mS beq l k x) else none
theorem LL {o : Value → World → Prop} (X : List (Nat × Obj)) {Y R : List (Nat × Obj)} {t e : TypeId} {m x y : Operand} {r : Value} {n : List (κ × Value)} {l q : List (κ × List (κ2 × β))} {k : κ} {k2 : κ2} {v : β} (hk : ∀ {x y : κ}, beq x y = true → x = y) (K : od P kt2 kenc2 beq2) (D : P.underlying t = some (.map kt2 e)) (c : ST dd F w W μ (X ++ (R ++ Y))) (h : my kenc (lA kenc2 vf) r n l R) (hm : jP E m = qz beq n k (.map none)) (G : jP E x = kenc2 k2) (I : jP E y = vf v) (b : Eu beq beq2 l k k2 v = some q) (z : ∀ W' R', ST dd F w W' μ (X ++ (R' ++ Y)) → my kenc (lA kenc2 vf) r n q R' → o undef W') : mL P E ⟨d, .mapUpdate t m x y, ty, pos, af, g⟩ W o := by
 unfold Eu at b
 cases i : lg beq l k with
 | none => rw [i] at b; cases b
 | some J =>
  rw [i] at b
  cases b
  obtain ⟨u, A, R1, B, g1, rfl, g3, g4⟩ := h.found hk i
  have j : jP E m = u := by rw [hm, qz, g1]; rfl
  have a : ST dd F w W μ ((X ++ A) ++ (R1 ++ (B ++ Y))) := by simpa using c
  refine ya (X ++ A) K D a g3 j G I (fun W' R' h1 s => z W' (A ++ (R' ++ B)) ?_ (g4 _ _ s))
  simpa using h1
theorem Ks {v : Value → World → Prop} (X : List (Nat × Obj)) {Y R R2 : List (Nat × Obj)} {t e : TypeId} {m x y : Operand} {s : Value} {r : List (κ × Value)} {l G : List (κ × γ)} {k : κ} {u : Value} {z : γ} (K : od P kt kenc beq) (Z : P.underlying t = some (.map kt e)) (o : ST dd F w W μ (X ++ (R ++ (R2 ++ Y)))) (h : my kenc Q s r l R) (hm : jP E m = s) (hx : jP E x = kenc k) (hy : jP E y = u) (U : Q u z R2) (b : EG beq l k z = some G) (O : ∀ W' R', ST dd F w W' μ (X ++ (R' ++ Y)) → my kenc Q s (mS beq r k u) G R' → v undef W') : mL P E ⟨d, .mapUpdate t m x y, ty, pos, af, g⟩ W v := by
 unfold EG at b
 cases j : lg beq l k with
 | some l2 => rw [j] at b; cases b
 | none =>
  rw [j] at b
  simp only [Option.isNone_none, aW, gd] at b
  subst b
  have T := h.JC j
  obtain ⟨J, n, rfl, L, M⟩ := h
  have c : ST dd F w W μ (X ++ (J ++ (n ++ (R2 ++ Y)))) := by simpa using o
  refine ya X K Z c L hm hx hy (fun W' R' g1 g2 => O W' (R' ++ (n ++ R2)) (by simpa using g1) ⟨R', n ++ R2, rfl, g2, ?_⟩)
  have A : ∀ {I : Type} (q : List (κ × I)) (y : I), lg beq q k = none → mS beq q k y = q ++ [(k, y)] := fun q y a => by
   rw [wK] at a
   rw [mS]
   cases D : q.findIdx? (fun p => beq k p.1) with
   | none => rfl
   | some i =>
    obtain ⟨p, hp, _⟩ := rc D
    rw [D] at a
    simp [hp] at a
  rw [A r u T, A l z j]
  exact M.push k U
end
end Go.Proofs.YtmlncblocfcmiaaGreat
namespace Go.Proofs.YtmlncblocfcmiaaGreat
open Go.RowKit
variable {dd : Bool}
section
variable {κ γ : Type} {Q : Value → γ → List (Nat × Obj) → Prop} {beq : κ → κ → Bool} {kenc : κ → Value}
theorem qe {a : Type} {l : List (κ × a)} {k : κ} {i : Nat} (h : l.findIdx? (fun p => beq k p.1) = some i) (x : a) : mS beq l k x = l.set i (k, x) := by rw [mS, h]
theorem tW {a : Type} {l : List (κ × a)} {k : κ} (h : l.findIdx? (fun p => beq k p.1) = none) (x : a) : mS beq l k x = l ++ [(k, x)] := by rw [mS, h]
theorem CT {a : Type} {l : List (κ × a)} {k : κ} (h : l.findIdx? (fun p => beq k p.1) = none) : lg beq l k = none := by rw [wK, h]; rfl
theorem BW {a : Type} {l : List (κ × a)} {k : κ} {i : Nat} {p : κ × a} (h : l.findIdx? (fun p => beq k p.1) = some i) (hp : l[i]? = some p) : lg beq l k = some p.2 := by rw [wK, h]; simp [hp]
def Kc (beq : κ → κ → Bool) (kenc : κ → Value) (Q : Value → γ → List (Nat × Obj) → Prop) (c : Value) (b : List (κ × Value)) (l : List (κ × γ)) (k : κ) (R : List (Nat × Obj)) : Prop :=
 ∃ a A B, R = a ++ (A ++ B) ∧ lA kenc (fun x => x) c b a ∧ ∀ v x R1, Q v x R1 → vm Q (mS beq b k v) (mS beq l k x) (A ++ (R1 ++ B))
theorem my.open (hk : ∀ {x y : κ}, beq x y = true → x = y) {q z : Value} {x0 : γ} (j : Q z x0 []) {m : List (κ × Value)} {l : List (κ × γ)} {R : List (Nat × Obj)} (h : my kenc Q q m l R) (k : κ) :
  ∃ R' R1, R.Perm (R' ++ R1) ∧ Q (qz beq m k z) ((lg beq l k).getD x0) R1 ∧ Kc beq kenc Q q m l k R' := by
 obtain ⟨c, n, rfl, o, d⟩ := h
 have b := d.find (beq := beq) k
 cases a : l.findIdx? (fun p => beq k p.1) with
 | none =>
  rw [a] at b
  refine ⟨c ++ n, [], by simp, ?_, c, n, [], by simp, o, fun v x R1 g => ?_⟩
  ·rw [qz, CT a, CT b]; exact j
  ·rw [tW a, tW b]; simpa using d.push k g
 | some i =>
  rw [a] at b
  obtain ⟨p, hp, r⟩ := rc a
  have s := hk r
  obtain ⟨v, A, R1, B, g1, rfl, g3, g4⟩ := d.get i p.1 p.2 hp
  refine ⟨c ++ (A ++ B), R1, ?_, ?_, c, A, B, rfl, o, fun v2 x2 R2 g => ?_⟩
  ·rw [aN, aN]
   refine bX _ (bX _ eT)
  ·rw [qz, BW a hp, BW b g1]; exact g3
  ·rw [qe a, qe b]; exact g4 k v2 x2 R2 g
variable {P : Program} {W : World} {kt : TypeId} {E : Nat → Value} {d : Option Nat} {ty : TypeId} {pos : String} {af : Array Edge} {g : Option (Nat × Bool)} {F : Nat → Prop} {w : World} {μ : km} {L : List (Nat × Obj)}
theorem OR {i : Value → World → Prop} (X : List (Nat × Obj)) {Y R R1 : List (Nat × Obj)} {t e : TypeId} {m x y : Operand} {c : Value} {j : List (κ × Value)} {l : List (κ × γ)} {k : κ} {u : Value} {z : γ} (K : od P kt kenc beq) (v : P.underlying t = some (.map kt e)) (b : ST dd F w W μ (X ++ (R ++ (R1 ++ Y)))) (h : Kc beq kenc Q c j l k R) (hm : jP E m = c) (D : jP E x = kenc k) (G : jP E y = u) (s : Q u z R1) (r : ∀ W' R', ST dd F w W' μ (X ++ (R' ++ Y)) → my kenc Q c (mS beq j k u) (mS beq l k z) R' → i undef W') : mL P E ⟨d, .mapUpdate t m x y, ty, pos, af, g⟩ W i := by
 obtain ⟨n, A, B, rfl, o, q⟩ := h
 have a : ST dd F w W μ (X ++ (n ++ (A ++ (B ++ (R1 ++ Y))))) := by simpa using b
 refine ya X K v a o hm D G (fun W' R' g1 g2 => r W' (R' ++ (A ++ (R1 ++ B))) ?_ ⟨R', A ++ (R1 ++ B), rfl, g2, q u z R1 s⟩)
 refine g1.perm ?_
 simp only [aN]
 refine bX _ (bX _ (bX _ ?_))
 rw [← aN, ← aN]
 exact gf _ eT
def GZ (beq : κ → κ → Bool) (kenc : κ → Value) (Q : Value → γ → List (Nat × Obj) → Prop) (b : Value) (l : List (κ × γ)) (k : κ) (c : Nat) (R : List (Nat × Obj)) : Prop :=
 ∃ m es clock a A B i e, b = .map (some m) ∧ R = (m, .map es clock) :: (A ++ B) ∧ tz kenc (fun x => x) a es clock ∧ es[i]? = some e ∧ e.born = c ∧ a.findIdx? (fun p => beq k p.1) = some i ∧
  ∀ v x R1, Q v x R1 → vm Q (mS beq a k v) (mS beq l k x) (A ++ (R1 ++ B))
theorem Gr {g : Type} (hk : ∀ x : κ, beq x x = true) (d : List (κ × g)) (k : κ) (a b : g) : mS beq (mS beq d k a) k b = mS beq d k b := by
 cases c : d.findIdx? (fun p => beq k p.1) with
 | none =>
  have h1 : (d ++ [(k, a)]).findIdx? (fun p => beq k p.1) = some d.length := by
   rw [gA, c]
   simp [eL, hk]
  rw [tW c, tW c, qe h1]
  simp
 | some i =>
  obtain ⟨p, hp, n⟩ := rc c
  have h1 : (d.set i (k, a)).findIdx? (fun p => beq k p.1) = some i := by
   rw [ec] at c ⊢
   obtain ⟨h1, m, h⟩ := c
   refine ⟨by simpa using h1, by simp [hk], fun j l => ?_⟩
   rw [List.getElem_set_ne (by omega)]
   exact h j l
  rw [qe c, qe c, qe h1]
  simp
end
end Go.Proofs.YtmlncblocfcmiaaGreat
namespace Go.Proofs.YtmlncblocfcmiaaGreat
open Go.RowKit
variable {dd : Bool}
section
variable {κ γ : Type} {Q : Value → γ → List (Nat × Obj) → Prop} {beq : κ → κ → Bool} {kenc : κ → Value}
variable {P : Program} {W : World} {kt : TypeId} {E : Nat → Value} {d : Option Nat} {ty : TypeId} {pos : String} {af : Array Edge} {g : Option (Nat × Bool)} {F : Nat → Prop} {w : World} {μ : km} {L : List (Nat × Obj)}
theorem Dh {es : Array MapEntry} {i : Nat} {f b : MapEntry → MapEntry} (h : ∀ e, es[i]? = some e → f e = b e) : es.modify i f = es.modify i b := by
 apply Array.ext_getElem?
 intro j
 rw [dQ, dQ]
 split
 ·rename_i a
  subst a
  cases he : es[i]? with
  | none => rfl
  | some e => simp [h e he]
 ·rfl
theorem tz.val {b : List (κ × Value)} {es : Array MapEntry} {clock : Nat} (h : tz kenc (fun x => x) b es clock) {i : Nat} {e : MapEntry} (he : es[i]? = some e) : ∃ p, b[i]? = some p ∧ e.key = kenc p.1 ∧ e.val = p.2 := by
 have a := aX (fun q => q[i]?) h.Dz
 simp only [eW, dI, he, dP] at a
 cases hp : b[i]? with
 | none => rw [hp] at a; cases a
 | some p =>
  rw [hp] at a
  simp only [dP, gd, Prod.mk.injEq] at a
  exact ⟨p, rfl, a.1, a.2⟩
theorem JS {Kk : Value → World → Prop} (X : List (Nat × Obj)) {Y R : List (Nat × Obj)} {t e : TypeId} {m x : Operand} {mv z : Value} {x0 : γ} {lv : List (κ × Value)} {l : List (κ × γ)} {k : κ} (hk : ∀ {x y : κ}, beq x y = true ↔ x = y) (K : od P kt kenc beq) (ht : P.underlying t = some (.map kt e)) (hz : ∀ w, (zeroValue e).run P w = .ok z w) (aa : Q z x0 []) (M : ST dd F w W μ (X ++ (R ++ Y))) (h : my kenc Q mv lv l R) (hm : jP E m = mv) (hx : jP E x = kenc k) (hK : ∀ W' v st R' R1, ST dd F w W' μ (X ++ (R' ++ (R1 ++ Y))) → Q v ((lg beq l k).getD x0) R1 → GZ beq kenc Q mv l k st R' → Kk (.tuple #[v, .int .i64 (st : Nat)]) W') : mL P E ⟨d, .mapEntry t m x, ty, pos, af, g⟩ W Kk := by
 obtain ⟨Rm, Rv, rfl, ⟨n, es, clock, rfl, rfl, o⟩, L⟩ := h
 have hb : W.heap[n]? = some (.map es clock) := (M.box n (.map es clock) (by simp)).1
 have h5 : (getObj n : Sem Obj).run P W = .ok (.map es clock) W := by simp [getObj, Sem.run, hb]
 have I := K.find k _ _ o.keys W
 rw [o.get k] at I
 have u := L.find (beq := beq) k
 have s : ∀ W' v, (Instr.mapEntry t (.map (some n)) (kenc k)).run P W = .ok v W' → (execOp (jP E) ⟨d, .mapEntry t m x, ty, pos, af, g⟩).run P W = .ok (.value v) W' := by
  intro W' v hr
  show (do pure (.value (← Instr.mapEntry t (jP E m) (jP E x))) : Sem Next).run P W = _
  rw [hm, hx]
  simp [hr]
 have r : ST dd F w W μ (X ++ (n, .map es clock) :: (Rv ++ Y)) := by simpa using M
 cases b : lv.findIdx? (fun p => beq k p.1) with
 | none =>
  rw [b] at I u
  have a := o.put (beq := beq) k z
  rw [b] at a
  refine .inl ⟨_, ChangeMaps.setBlock W n (.map (es.push { key := kenc k, val := z, born := clock }) (clock + 1)), s _ (.tuple #[z, .int .i64 (clock : Nat)]) ?_, hK _ z clock ((n, .map (es.push { key := kenc k, val := z, born := clock }) (clock + 1)) :: (Rv ++ [])) [] ?_ ?_ ?_⟩
  ·simp [Instr.mapEntry, aT ht, h5, K.check, I, xj hb, hz _, goInt]
  ·have := r.setBlock (.map (es.push { key := kenc k, val := z, born := clock }) (clock + 1))
   simpa using this
  ·rw [CT u.symm]; exact aa
  ·refine ⟨n, _, _, lv ++ [(k, z)], Rv, [], es.size, { key := kenc k, val := z, born := clock }, rfl, rfl, a, by simp, rfl, ?_, fun v x R1 hq => ?_⟩
   ·rw [gA, b]
    have a7 := o.length
    simp [eL, hk, a7]
   ·rw [← tW b, Gr (fun x => hk.2 rfl), tW b, tW u.symm]
    simpa using L.push k hq
 | some i =>
  rw [b] at I u
  obtain ⟨p, hp, a8⟩ := rc b
  obtain ⟨q, a6, O⟩ := rc u.symm
  have ad := hk.1 O
  obtain ⟨v, A, R1, B, g1, rfl, g3, g4⟩ := L.get i q.1 q.2 a6
  have a1 : p.2 = v := by rw [g1] at hp; cases hp; rfl
  have a7 := o.length
  have ab : i < lv.length := (bG.1 hp).1
  obtain ⟨J, c⟩ : ∃ J, es[i]? = some J := ⟨es[i], Array.getElem?_eq_getElem (by omega)⟩
  obtain ⟨p', Z, D, G⟩ := o.val c
  rw [hp] at Z
  cases Z
  simp only [aA, hp, dP] at I
  have a := o.put (beq := beq) k v
  rw [b] at a
  have T : ((es[i]?).map (·.key)).getD (kenc k) = kenc k := by
   rw [c]
   simp only [dP, fE, D]
   exact K.eq k p.1 a8
  have U : es.modify i (fun e => { e with key := kenc k }) = es.modify i (fun e => { e with key := kenc k, val := v }) := Dh fun e he => by
   rw [c] at he; cases he
   rw [← a1, ← G]
  refine .inl ⟨_, ChangeMaps.setBlock W n (.map (es.modify i fun e => { e with key := kenc k, val := v }) clock), s _ (.tuple #[v, .int .i64 (J.born : Nat)]) ?_, hK _ v J.born ((n, .map (es.modify i fun e => { e with key := kenc k, val := v }) clock) :: (A ++ B)) R1 ?_ ?_ ?_⟩
  ·simp only [Instr.mapEntry, cE, aT ht, h5, K.check, I, bN, T, Instr.keyThatStays, K.bits, aW, dq]
   rw [xj hb, U]
   simp [c, goInt, a1]
  ·have := r.setBlock (.map (es.modify i fun e => { e with key := kenc k, val := v }) clock)
   refine this.perm ?_
   simp only [aN, cA]
   refine bX _ (List.Perm.cons _ (bX _ ?_))
   rw [← aN, ← aN]
   exact gf _ eT
  ·rw [BW u.symm a6]; exact g3
  ·refine ⟨n, _, _, lv.set i (k, v), A, B, i, { J with key := kenc k, val := v }, rfl, rfl, a, ?_, rfl, ?_, fun v2 x2 R2 hq => ?_⟩
   ·rw [dQ, aZ rfl, c]; rfl
   ·rw [ec] at b ⊢
    obtain ⟨h1, o, L⟩ := b
    refine ⟨by simpa using h1, by simp [hk], fun j hj => ?_⟩
    rw [List.getElem_set_ne (by omega)]
    exact L j hj
   ·rw [← qe b, Gr (fun x => hk.2 rfl), qe b, qe u.symm]
    exact g4 k v2 x2 R2 hq
theorem Lh {es : Array MapEntry} (h : es.toList.Pairwise (fun a b => a.born < b.born)) {i : Nat} {e : MapEntry} (he : es[i]? = some e) : es.findIdx? (fun a => (a.born : Int) == (e.born : Int)) = some i := by
 rw [Array.findIdx?_eq_some_iff_getElem]
 obtain ⟨d, c⟩ := dy.1 he
 refine ⟨d, by rw [c]; simp, fun j g => ?_⟩
 have := List.pairwise_iff_getElem.1 h j i (by simpa using Nat.lt_trans g d) (by simpa using d) g
 simp only [Array.getElem_toList] at this
 rw [c] at this
 simp
 omega
theorem Ie {U : Value → World → Prop} (X : List (Nat × Obj)) {Y R R1 : List (Nat × Obj)} {t e : TypeId} {m s y : Operand} {T u : Value} {z : γ} {l : List (κ × γ)} {k : κ} {st : Nat} (hk : ∀ {x y : κ}, beq x y = true ↔ x = y) (K : od P kt kenc beq) (o : ST dd F w W μ (X ++ (R ++ (R1 ++ Y)))) (h : GZ beq kenc Q T l k st R) (hm : jP E m = T) (hs : jP E s = .int .i64 (st : Nat)) (hy : jP E y = u) (hq : Q u z R1) (hK : ∀ W' O R', ST dd F w W' μ (X ++ (R' ++ Y)) → my kenc Q T O (mS beq l k z) R' → U undef W') : mL P E ⟨d, .entryStore t m s y, ty, pos, af, g⟩ W U := by
 obtain ⟨b, es, clock, lv, A, B, i, en, rfl, rfl, I, j, c, L, h3⟩ := h
 have Z : W.heap[b]? = some (.map es clock) := (o.box b (.map es clock) (by simp)).1
 have h5 : (getObj b : Sem Obj).run P W = .ok (.map es clock) W := by simp [getObj, Sem.run, Z]
 obtain ⟨p, hp, J⟩ := rc L
 obtain ⟨p', G, n, M⟩ := I.val j
 rw [hp] at G
 cases G
 have a := I.put (beq := beq) k u
 rw [L] at a
 have D : es.modify i (fun e => { e with val := u }) = es.modify i (fun e => { e with key := kenc k, val := u }) := Dh fun e he => by
  rw [j] at he; cases he
  have r : en.key = kenc k := by rw [n]; exact K.eq k p.1 J
  rw [← r]
 have v := Lh I.born j
 rw [c] at v
 have q : ST dd F w W μ (X ++ (b, .map es clock) :: (A ++ (B ++ (R1 ++ Y)))) := by simpa using o
 refine .inr (.inl ⟨ChangeMaps.setBlock W b (.map (es.modify i fun e => { e with key := kenc k, val := u }) clock), ?_, hK _ (mS beq lv k u) ((b, .map (es.modify i fun e => { e with key := kenc k, val := u }) clock) :: (A ++ (R1 ++ B))) ?_ ⟨[(b, .map (es.modify i fun e => { e with key := kenc k, val := u }) clock)], A ++ (R1 ++ B), rfl, ⟨b, _, _, rfl, rfl, ?_⟩, h3 u z R1 hq⟩⟩)
 ·show (do Instr.entryStore t (jP E m) (jP E s) (jP E y); pure .skip : Sem Next).run P W = _
  rw [hm, hs, hy]
  simp only [Instr.entryStore, cE, h5, bN, asInt, asIntOf, dq, v]
  rw [xj Z, D]
  rfl
 ·have := q.setBlock (.map (es.modify i fun e => { e with key := kenc k, val := u }) clock)
  refine this.perm ?_
  simp only [aN, cA]
  refine bX _ (List.Perm.cons _ (bX _ ?_))
  rw [← aN, ← aN]
  exact gf _ eT
 ·rw [qe L]; exact a
end
end Go.Proofs.YtmlncblocfcmiaaGreat
namespace Go.Proofs.YtmlncblocfcmiaaGreat
open Go.RowKit
variable {dd : Bool}
section
variable {κ γ : Type} {Q : Value → γ → List (Nat × Obj) → Prop} {beq : κ → κ → Bool} {kenc : κ → Value}
def lN (kenc : κ → Value) (Q : Value → γ → List (Nat × Obj) → Prop) (v : Value) (l : List (κ × γ)) (R : List (Nat × Obj)) : Prop := ∃ a, my kenc Q v a l R
def qC (kenc : κ → Value) (Q : Value → γ → List (Nat × Obj) → Prop) (μ : km) (v : Value) (l : List (κ × γ)) : Prop := ∃ a R, my kenc Q v a l R ∧ ∀ b o, (b, o) ∈ R → μ b = some o
theorem lN.at {v : Value} {l : List (κ × γ)} {R : List (Nat × Obj)} {μ : km} (h : lN kenc Q v l R) (a : ∀ b o, (b, o) ∈ R → μ b = some o) : qC kenc Q μ v l := let ⟨c, h⟩ := h; ⟨c, R, h, a⟩
theorem qC.mono {v : Value} {l : List (κ × γ)} {μ μ' : km} (h : qC kenc Q μ v l) (d : kf μ μ') : qC kenc Q μ' v l := let ⟨g, R, h, a⟩ := h; ⟨g, R, h, fun b o c => d _ _ (a b o c)⟩
theorem my.form {v : Value} {a : List (κ × Value)} {l : List (κ × γ)} {R : List (Nat × Obj)} (h : my kenc Q v a l R) : ∃ m, v = .map (some m) := let ⟨_, _, _, h, _⟩ := h; h.form
theorem my.e {v : Value} {a : List (κ × Value)} {l : List (κ × γ)} {R : List (Nat × Obj)} (h : my kenc Q v a l R) : lN kenc Q v l R := ⟨a, h⟩
theorem lN.form {v : Value} {l : List (κ × γ)} {R : List (Nat × Obj)} (h : lN kenc Q v l R) : ∃ m, v = .map (some m) := let ⟨_, h⟩ := h; h.form
theorem lN.new {v : Value} {R : List (Nat × Obj)} (h : lA (β := Value) kenc (fun x => x) v [] R) : lN kenc Q v [] R := ⟨[], R, [], (bP R).symm, h, rfl⟩
theorem my.rowAt {α : Type} {e : TypeId} {enc : α → List Value} {n : Nat} {g : Value} {c : List (κ × Value)} {l : List (κ × List α)} {R : List (Nat × Obj)} (hk : ∀ {x y : κ}, beq x y = true → x = y) (h : my kenc (kk e enc n) g c l R) (k : κ) :
  ∃ R1, kk e enc n (qz beq c k (.slice none 0 0)) ((lg beq l k).getD []) R1 ∧ ∀ b o, (b, o) ∈ R1 → (b, o) ∈ R := by
 cases a : lg beq l k with
 | none => refine ⟨[], ?_, fun b o h => by cases h⟩; rw [qz, h.JC a]; exact .inl ⟨rfl, rfl, rfl⟩
 | some x =>
  obtain ⟨v, A, R1, B, g1, rfl, g3, _⟩ := h.found hk a
  refine ⟨R1, ?_, fun b o d => by simp [d]⟩
  rw [qz, g1]; exact g3
theorem kk.B7 {α : Type} {e : TypeId} {enc : α → List Value} {k : Nat} {v : Value} {l : List α} {R : List (Nat × Obj)} (h : kk e enc k v l R) (hk : ∀ x, (enc x).length = k) : Sl (Pl enc) k (Az R) v l := by
 refine h.sl hk (fun b o a => ?_)
 rcases h with ⟨rfl, rfl, rfl⟩ | ⟨g, cap, c, rfl, rfl, _⟩
 ·cases a
 ·simp at a; obtain ⟨rfl, rfl⟩ := a; simp [Az]
end
theorem nt.hp (W : World) : nt (hp W) [] W := ⟨fun _ _ h => h, fun _ _ h => by cases h⟩
section
variable {P : Program} {W : World} {E : Nat → Value} {d : Option Nat} {ty : TypeId} {pos : String} {af : Array Edge} {g : Option (Nat × Bool)} {F : Nat → Prop} {w : World} {μ : km} {L : List (Nat × Obj)}
theorem Fa {t k e : TypeId} (dd : Nat) (b : P.underlying t = some (.map k e)) (a : Option Nat) (W : World) : (Op.equalIn (dd + 1) t (.map a) (.map none)).run P W = .ok a.isNone W := by
 cases a <;> simp [Op.equalIn, aT b]
theorem JJ {a m k e : TypeId} {x y : Operand} {r : Option Nat} {b : Bool} (i : P.underlying a = some (.map k e)) (j : jP E x = .map r) (l : jP E y = .map none) (h : r.isNone = b) :
  lV P E ⟨d, .binOp .eql a x y m, ty, pos, af, g⟩ W (.bool b) W := by
 subst h
 show (do let r ← (do eqGuard .eql a x y (jP E x) (jP E y); binOp .eql a (jP E x) (jP E y)); pure (.value r) : Sem Next).run P W = _
 rw [j, l]
 have c := Fa 9999 i r W
 simp [eqGuard, binOp, Op.equal, show Op.maxDepth = 9999 + 1 from rfl, c]
theorem IA {κ κ2 β : Type} {kenc : κ → Value} {kenc2 : κ2 → Value} {vf : β → Value} {beq : κ → κ → Bool} {b o kt e : TypeId} {x y : Operand} {n : Value} {a : List (κ × Value)} {l : List (κ × List (κ2 × β))} {R : List (Nat × Obj)} {k : κ} (hk : ∀ {x y : κ}, beq x y = true → x = y) (i : P.underlying b = some (.map kt e)) (h : my kenc (lA kenc2 vf) n a l R) (j : jP E x = qz beq a k (.map none)) (m : jP E y = .map none) :
  lV P E ⟨d, .binOp .eql b x y o, ty, pos, af, g⟩ W (.bool (lg beq l k).isNone) W := by
 obtain ⟨r, h1, c⟩ := h.isNil hk k
 exact JJ i (j.trans h1) m c
theorem BV {κ γ : Type} {b : Value → World → Prop} {t : TypeId} (kenc : κ → Value) (Q : Value → γ → List (Nat × Obj) → Prop) (a : ST dd F w W μ L) (h : ∀ W' v R, ST dd F w W' μ (R ++ L) → lN kenc Q v [] R → b v W') : mL P E ⟨d, .makeMap t none, ty, pos, af, g⟩ W b :=
 CX kenc (fun x : Value => x) a (fun W' v R h1 c => h W' v R h1 (lN.new c))
end
def pA {α : Type} (e : TypeId) (enc : α → List Value) (k : Nat) (v : Value) (l : List α) (R : List (Nat × Obj)) : Prop :=
 (v = .slice none 0 0 ∧ l = [] ∧ R = []) ∨
 ∃ g off cap a, v = .slice (some ⟨g, off, none⟩) l.length cap ∧ R = [(g, .cells a e (0, 0))] ∧ l.length ≤ cap ∧ cap ≤ maxLen ∧ off + cap * k ≤ a.size ∧ (a.toList.drop off).take (l.length * k) = (l.map enc).flatten
section
variable {α : Type} {e : TypeId} {enc : α → List Value} {k : Nat} {v : Value} {l : List α} {R : List (Nat × Obj)}
theorem pA.nil (e : TypeId) (enc : α → List Value) (k : Nat) : pA e enc k (.slice none 0 0) [] [] := .inl ⟨rfl, rfl, rfl⟩
theorem kk.Qi (h : kk e enc k v l R) : pA e enc k v l R := by
 rcases h with h | ⟨g, cap, a, h1, b, c, d, j, i⟩
 ·exact .inl h
 ·exact .inr ⟨g, 0, cap, a, h1, b, c, d, by omega, by simpa using i⟩
theorem pA.len (h : pA e enc k v l R) : l.length ≤ 9223372036854775807 := by
 rcases h with ⟨rfl, rfl, rfl⟩ | ⟨g, off, cap, a, rfl, rfl, h1, b, _⟩
 ·simp
 ·unfold maxLen at b; omega
theorem pA.form (h : pA e enc k v l R) : ∃ A c, v = .slice A l.length c := by
 rcases h with ⟨rfl, rfl, rfl⟩ | ⟨g, off, cap, a, rfl, rfl, _⟩
 ·exact ⟨_, _, rfl⟩
 ·exact ⟨_, _, rfl⟩
theorem pA.B7 (h : pA e enc k v l R) (hk : ∀ x, (enc x).length = k) : Sl (Pl enc) k (Az R) v l := by
 rcases h with ⟨rfl, rfl, rfl⟩ | ⟨g, off, cap, a, rfl, rfl, h1, c, o, d⟩
 ·exact Sl.nil _ _ _
 ·refine ⟨_, cap, rfl, h1, c, fun _ => ⟨g, off, a, e, (0, 0), rfl, by simp [Az], fun i x m => ⟨enc x, hk x, rfl, fun j y n => ?_⟩⟩⟩
  have := uX hk l i x m j y n
  rw [← d] at this
  have b : i * k + j < l.length * k := by
   have := (bG.1 this).1
   simp at this; omega
  rw [dV b, dO] at this
  simpa [ep] using this
variable {P : Program} {W : World} {E : Nat → Value} {d : Option Nat} {ty : TypeId} {pos : String} {af : Array Edge} {g : Option (Nat × Bool)} {F : Nat → Prop} {w : World} {μ : km} {L : List (Nat × Obj)}
theorem MK {x : Operand} {t a : TypeId} (b : P.underlying t = some (.slice a)) (i : jP E x = v) (h : pA e enc k v l R) : lV P E ⟨d, .call ⟨.builtin .len, #[x], #[t]⟩, ty, pos, af, g⟩ W (.int .i64 l.length) W := by
 obtain ⟨A, c, rfl⟩ := h.form
 exact xU b i
theorem J5 {t o : TypeId} {x m : Operand} {J : IntKind} {i : Int} (y : P.underlying t = some (.slice o)) (he : ∀ w, (sizeOf o).run P w = .ok k w) (z : jP E x = v) (r : jP E m = .int J i) (hk : ∀ x, (enc x).length = k) (h : pA e enc k v l R) (A : 0 ≤ i) (s : i ≤ l.length) :
  ∃ u, pA e enc k u (l.drop i.toNat) R ∧ ∀ W, lV P E ⟨d, .slice t x (some m) none none, ty, pos, af, g⟩ W u W := by
 rcases h with ⟨rfl, rfl, rfl⟩ | ⟨j, off, cap, b, rfl, rfl, h1, L, M, D⟩
 ·have : i = 0 := by simp at s; omega
  subst this
  refine ⟨.slice none 0 0, by simpa using pA.nil e enc k, fun W => ?_⟩
  show (do pure (.value (← Instr.sliceAt t (jP E x) (some (jP E m)) none none)) : Sem Next).run P W = _
  rw [z, r]
  simp [Instr.sliceAt, Instr.slice, Instr.sliceBounds, Instr.sliceBound, asIntOf, aT y, he W]
 ·refine ⟨.slice (some (if cap = i.toNat then ⟨j, off, none⟩ else (Addr.add ⟨j, off, none⟩ (i.toNat * k)))) (l.length - i.toNat) (cap - i.toNat), .inr ?_, fun W => ?_⟩
  ·have a : (l.drop i.toNat).length = l.length - i.toNat := by simp
   have c : (l.map enc).flatten.drop (i.toNat * k) = ((l.drop i.toNat).map enc).flatten := by
    have F : l = l.take i.toNat ++ l.drop i.toNat := (gq _ _).symm
    have G : ((l.take i.toNat).map enc).flatten.length = i.toNat * k := by rw [pt hk, cY, dE (by omega)]
    conv => lhs; rw [F, cD, cQ]
    rw [← G, List.drop_left]
   by_cases q : cap = i.toNat
   ·rw [aZ q]
    have n : l.drop i.toNat = [] := List.drop_eq_nil_of_le (by omega)
    refine ⟨j, off, cap - i.toNat, b, by rw [n]; simp; omega, rfl, by rw [n]; simp, by omega, by have : (cap - i.toNat) * k ≤ cap * k := cO _ (by omega); omega, by rw [n]; simp⟩
   ·rw [aY q]
    refine ⟨j, off + i.toNat * k, cap - i.toNat, b, by rw [a, dJ], rfl, by rw [a]; omega, by omega, ?_, ?_⟩
    ·have : i.toNat * k + (cap - i.toNat) * k = cap * k := by rw [← cN]; congr 1; omega
     omega
    ·rw [a, ← c, ← D, gT, List.drop_drop, Nat.sub_mul]
  ·show (do pure (.value (← Instr.sliceAt t (jP E x) (some (jP E m)) none none)) : Sem Next).run P W = _
   rw [z, r]
   have I : 0 ≤ i ∧ i ≤ (l.length : Int) := ⟨A, s⟩
   simp [Instr.sliceAt, Instr.slice, Instr.sliceBounds, Instr.sliceBound, asIntOf, aT y, he W, I]
   split <;> rfl
theorem IC {K : Value → World → Prop} {t : TypeId} {a6 : Nat} {z vs : Value} {m r : List α} (X : List (Nat × Obj)) {Y : List (Nat × Obj)} {x y : Operand} {i : TypeInfo} (a7 : ST dd F w W μ (X ++ (R ++ Y))) (hk : ∀ x, (enc x).length = k) (ak : 0 < k) (h1 : ∀ x, ∀ u ∈ enc x, u.oneCell' = true) (ht : P.underlying t = some (.slice e)) (hi : P.info? e = some i) (hz : i.zero = some z) (ab : z.cells.size = k) (a1 : i.size = k) (a8 : i.bytes = a6) (hx : jP E x = v) (hy : jP E y = vs) (hR : pA e enc k v l R) (hs : Sl (Pl enc) k (hp W) vs m) (hb : mG a6 l m = some r) (h : ∀ W' v' R', ST dd F w W' μ (X ++ (R' ++ Y)) → pA e enc k v' r R' → K v' W') : mL P E ⟨d, .call ⟨.builtin .append, #[x, y], #[t, t]⟩, ty, pos, af, g⟩ W K := by
 rcases hR with ⟨rfl, rfl, rfl⟩ | ⟨D, off, cap, s, rfl, rfl, h2, h3, h4, h5⟩
 ·exact HB X a7 hk ak h1 ht hi hz ab a1 a8 hx hy (kk.nil e enc k) hs hb (fun W' v' R' a b => h W' v' R' a b.Qi)
 unfold mG at hb
 split at hb
 case isFalse => cases hb
 rename_i Z
 cases hb
 have U : ∀ (V : Value) (W' : World), (Builtin.append_ #[t, t] ty #[.slice (some ⟨D, off, none⟩) l.length cap, vs]).run P W = .ok V W' → (execOp (jP E) ⟨d, .call ⟨.builtin .append, #[x, y], #[t, t]⟩, ty, pos, af, g⟩).run P W = .ok (.value V) W' := by
  intro V W' hV
  show (do let d ← resolve (jP E) ⟨.builtin .append, #[x, y], #[t, t]⟩ ty; invoke d.target d.args : Sem Next).run P W = _
  simp [resolve, invoke, builtin, hx, hy, hV]
 obtain ⟨A, c, rfl, ap, aq, ah⟩ := hs
 have L : ST dd F w W μ (X ++ (D, .cells s e (0, 0)) :: Y) := by simpa using a7
 have hg : W.heap[D]? = some (.cells s e (0, 0)) := (L.box D _ (by simp)).1
 have J := pt hk l
 have Q : ∀ u ∈ (m.map enc).flatten, u.oneCell' = true := by
  intro u hu
  obtain ⟨ys, ao, an⟩ := iW.1 hu
  obtain ⟨x, _, rfl⟩ := bB.1 ao
  exact h1 x u an
 have I : Src P i.size t (.slice A m.length c) m.length ((m.map enc).flatten) W := by
  rw [a1]
  rcases ek m.length with h0 | h0
  ·have hm : m = [] := aU h0
   subst hm
   cases A with
   | none => exact Src.ofNil W ht c
   | some ad => exact Src.ofSlice W ht ad 0 c [] (by simp) (fun j u hu => by simp at hu) (fun u hu => by cases hu)
  ·obtain ⟨b, o, cs, T, fr, rfl, h6, h7⟩ := ah h0
   refine Src.ofSlice W ht _ _ c _ (pt hk m) (fun j u hu => ?_) Q
   obtain ⟨i, x, q, h8, h9, rfl⟩ := Es hk m j u hu
   obtain ⟨ys, _, ae, ag⟩ := h7 i x h8
   cases ae
   rw [dJ, fV W b (o + (i * k + q)) cs T fr h6, ← ep]
   exact ag q u h9
 have n := pt hk m
 have O : ((l ++ m).map enc).flatten = (l.map enc).flatten ++ (m.map enc).flatten := by simp
 generalize (m.map enc).flatten = fm at I Q n O
 subst a1
 have ar : l.length * i.size ≤ cap * i.size := cO _ h2
 by_cases G : l.length + m.length ≤ cap
 ·have au : l.length * i.size + m.length * i.size ≤ cap * i.size := by rw [← cN]; exact cO _ G
  have aa := iz (P := P) D (off + l.length * i.size) e fm 0 s W hg (by rw [n]; omega) Q
  have M : (Builtin.append_ #[t, t] ty #[.slice (some ⟨D, off, none⟩) l.length cap, .slice A m.length c]).run P W = .ok (.slice (some ⟨D, off, none⟩) (l.length + m.length) cap) (W.setRow D (s.toList.take (off + l.length * i.size) ++ fm ++ s.toList.drop (off + l.length * i.size + fm.length)).toArray) := by
   simp [Builtin.append_, aT ht, sizeOf, typeInfo, hi, I.len, G, I.cells, dJ]
   simp only [jh] at aa
   rw [aa]
   simp
  refine .inl ⟨_, _, U _ _ M, h _ _ [(D, _)] (by simpa using L.store _) (.inr ⟨D, off, cap, _, by rw [aD], rfl, by simpa using G, h3, ?_, ?_⟩)⟩
  ·simp only [dK, aD, cY, gu, dl, n]
   rw [dE (by omega)]
   omega
  ·have hA : (s.toList.take (off + l.length * i.size)).length = off + l.length * i.size := by simp; omega
   show ((s.toList.take (off + l.length * i.size) ++ (fm ++ s.toList.drop (off + l.length * i.size + fm.length))).drop off).take ((l ++ m).length * i.size) = _
   rw [O, List.drop_append, gT, hA, show off - (off + l.length * i.size) = 0 by omega, List.drop_zero, show off + l.length * i.size - off = l.length * i.size by omega, h5]
   rw [aD, cN, fg, fg, J, n, dr (by rw [J]; omega), show l.length * i.size + m.length * i.size - l.length * i.size = m.length * i.size by omega, dr (by rw [n]; omega)]
   simp
 ·have hold : (Builtin.firstCells i.size l.length (.slice (some ⟨D, off, none⟩) l.length cap)).run P W.drew = .ok ((l.map enc).flatten).toArray W.drew := by
   refine run_firstCells_some W.drew i.size l.length ⟨D, off, none⟩ l.length cap _ J (fun j u hu => ?_)
   rw [dJ]
   show W.cell? ⟨D, off + j, none⟩ = some u
   rw [fV W D (off + j) s e (0, 0) hg]
   rw [← h5] at hu
   have hj : j < l.length * i.size := by have := (bG.1 hu).1; simp at this; omega
   rw [dV hj, dO] at hu
   simpa using hu
  have hlen : (l ++ m).length = l.length + m.length := aD
  have aj := grownCap_ge W (l.length + m.length) cap e
  have ai := gS W (l.length + m.length) cap e Z.2
  have M := run_append_grow_src (P := P) W t t ty e i z ht hi hz (some ⟨D, off, none⟩) l.length cap ((l.map enc).flatten) hold _ m.length _ I (by omega) (by have := Z.2; unfold maxLen at this; omega) (growslice_fits (by omega) (by rw [a8]; exact Z.1))
  have h6 := L.drew.alloc (.cells (((l.map enc).flatten ++ fm).toArray ++ Builtin.zeroCells z.cells (grownCap W (l.length + m.length) cap e - (l.length + m.length))) e (0, 0))
  have h7 := (ST.drop (A := (W.drew.heap.size, _) :: X) h6).perm (L' := X ++ ([(W.heap.size, _)] ++ Y)) (by simpa using (eJ (a := (W.heap.size, _)) (l₁ := X) (l₂ := Y)).symm)
  refine .inl ⟨_, _, U _ _ M, h _ _ _ h7 (kk.Qi (.inr ⟨W.heap.size, grownCap W (l.length + m.length) cap e, _, by rw [hlen], rfl, by rw [hlen]; exact aj, ai, ?_, ?_⟩))⟩
  ·rw [Array.size_append, size_zeroCells, ab]
   simp only [dK, aD, J, n]
   rw [← cN, ← cN]
   congr 1
   omega
  ·rw [Array.toList_append, List.toList_toArray, hlen, O, List.take_append_of_le_length (by simp only [aD, J, n]; rw [cN]; exact aV _), dr (by simp only [aD, J, n]; rw [cN]; exact aV _)]
end
end Go.Proofs.YtmlncblocfcmiaaGreat
namespace Go.Proofs.YtmlncblocfcmiaaGreat
open Go.RowKit
section
variable {P : Program} {ops : Array Oper} {Q : Exit → Act → World → Prop} {S : Array Bool → World → Prop}
def we (ops : Array Oper) (l : Array Bool) : Prop := ∀ j o, ops[j]? = some o → l.getD j true = true → ∀ e ∈ o.after, Region.binds .any e = true → l.getD e.on true = true
def Fu (ops : Array Oper) : Nat → List Nat → Bool
 | _, [] => true
 | j, k :: r => (match ops[j]? with | some o => o.after.any (fun e => Region.binds .any e && e.on == k) | none => false) && Fu ops k r
theorem ER {l : Array Bool} (c : we ops l) : ∀ (r : List Nat) (j i : Nat), Fu ops j r = true → (j :: r).getLast? = some i → l.getD j true = true → l.getD i true = true
 | [], j, i, _, h, a => by simp at h; subst h; exact a
 | k :: r, j, i, h, g, a => by
  simp only [Fu, bA] at h
  obtain ⟨h1, d⟩ := h
  cases b : ops[j]? with
  | none => rw [b] at h1; cases h1
  | some o =>
   rw [b] at h1
   simp only [Array.any_eq_true] at h1
   obtain ⟨n, m, h1⟩ := h1
   simp only [bA, ji] at h1
   have := c j o b a o.after[n] (Array.getElem_mem m) h1.1
   rw [h1.2] at this
   exact ER c r k i d (by simpa [List.getLast?_cons_cons] using g) this
def D3 (ops : Array Oper) (i : Nat) (l : Array Bool) : Prop := we ops l ∧ l.getD i true = false
theorem D3.B6 {l : Array Bool} {i : Nat} (h : D3 ops i l) (j : Nat) (r : List Nat) (a : Fu ops j r = true) (c : (j :: r).getLast? = some i) : l.getD j true = false := by
 cases b : l.getD j true with
 | false => rfl
 | true => have := ER h.1 r j i a c b; rw [h.2] at this; cases this
theorem we.start (n : Nat) (h : n = ops.size) : we ops (Array.replicate n false) := by
 subst h
 intro j o c b
 have a : j < ops.size := (dy.1 c).1
 simp [a] at b
theorem we.set {l : Array Bool} {i : Nat} (h : we ops l) (r : i ∈ Region.ready .any ops l) : we ops (l.setIfInBounds i true) := by
 intro j o q n e he m
 have up : ∀ {k : Nat}, l.getD k true = true → (l.setIfInBounds i true).getD k true = true := fun {k} hk => by
  by_cases c : i = k
  ·subst c
   by_cases g : i < l.size
   ·simp [g]
   ·simp [g]
  ·rw [jt true c]; exact hk
 by_cases b : i = j
 ·subst b
  obtain ⟨_, s, d, a⟩ := jy.1 r
  rw [q] at d
  cases d
  refine up ?_
  have := a e he m
  by_cases g : e.on < l.size
  ·simp [g] at this ⊢; exact this
  ·simp [g]
 ·rw [jt true b] at n
  exact up (h j o q n e he m)
def AJ (P : Program) (ops : Array Oper) (S : Array Bool → World → Prop) (i : Nat) (o : Oper) (v : Value) (a : Act) : Prop :=
 (Region.wanted o (yielded ops a.tmps) = true ∧ ∀ l w, D3 ops i l → S l w → (execOp a.eval o).run P w = .ok (.value v) w) ∨
 (Region.wanted o (yielded ops a.tmps) = false ∧ v = undef)
theorem AJ.Ql {i : Nat} {o : Oper} {v : Value} {a : Act} {l : Array Bool} (h : AJ P ops S i o v a) (hp : D3 ops i l) : YieldsIf P ops (S l) o v a :=
 h.imp (fun ⟨h1, b⟩ => ⟨h1, fun w hw => b l w hp hw⟩) id
def I6 (P : Program) (ops : Array Oper) (Q : Exit → Act → World → Prop) (S : Array Bool → World → Prop) : Nat → Array Bool → Act → World → Prop
 | 0, l, a, w => Region.ready .any ops l = [] ∧ Q .normal a w
 | n + 1, l, a, w => (Region.ready .any ops l = [] → Q .normal a w) ∧
  ∀ i ∈ Region.ready .any ops l, wpOp P ops Q i (fun c b => S (l.setIfInBounds i true) b ∧ I6 P ops Q S n (l.setIfInBounds i true) c b) a w
theorem IL : ∀ (n : Nat) (l : Array Bool) (a : Act) (w : World), I6 P ops Q S n l a w → wpAny P .any ops Q n l a w
 | 0, _, _, _, h => h
 | n + 1, _, _, _, h => ⟨h.1, fun i d => wpOp_mono (fun b g c => IL n _ b g c.2) (h.2 i d)⟩
theorem LB {i j : Nat} {d q : Oper} {v : Value} (u : ops[j]? = some q) (m : d.apart ops q = true) (n : ∀ cs b, d.op ≠ .select cs b) (o : ∀ cs b, q.op ≠ .select cs b) (t : ∀ c a w, Q (.panic c) (a.put d.dst v) w → Q (.panic c) a w) {K : Act → World → Prop} {a : Act} {w : World} (x : AJ P ops S i d v a) (h : wpOp P ops Q j K (a.put d.dst v) w) :
  wpOp P ops Q j (fun g s => AJ P ops S i d v g ∧ K (g.put d.dst v) s) a w := by
 have h1 : YieldsIf P ops (fun w => ∃ l, D3 ops i l ∧ S l w) d v a := x.imp (fun ⟨h1, k⟩ => ⟨h1, fun w ⟨l, hp, hw⟩ => k l w hp hw⟩) id
 refine wpOp_mono (fun g s r => ⟨r.1.imp (fun ⟨h1, k⟩ => ⟨h1, fun l w hp hw => k w ⟨l, hp, hw⟩⟩) id, r.2⟩) (wpOp_putIf (S := fun w => ∃ l, D3 ops i l ∧ S l w) u m n o t h1 h)
theorem F8 {i : Nat} {y : Oper} {v : Value} (U : ops[i]? = some y) (t : ∀ (j : Nat) (o : Oper) cs b, ops[j]? = some o → o.op ≠ .select cs b) (hQ : ∀ c a w, Q (.panic c) (a.put y.dst v) w → Q (.panic c) a w) (hm : ∀ l w, S (l.setIfInBounds i true) w → S l w) :
  ∀ (n : Nat) (l : Array Bool) (a : Act) (w : World), (∀ j z, ops[j]? = some z → j ≠ i → l.getD j true = false → (∀ e ∈ z.after, Region.binds .any e = true → e.on ≠ i) → y.apart ops z = true) →
   we ops l → i ∈ Region.ready .any ops l → AJ P ops S i y v a → S (l.setIfInBounds i true) w → I6 P ops Q S n (l.setIfInBounds i true) (a.put y.dst v) w → I6 P ops Q S (n + 1) l a w := by
 intro n
 induction n with
 | zero =>
  intro l a w _ L r M A H
  refine ⟨fun h => (by rw [h] at r; cases r), fun j F => ?_⟩
  by_cases d : j = i
  ·subst d
   exact (M.Ql ⟨L, (jy.1 r).1⟩).wpOp U (hm l w A) ⟨A, H⟩
  ·have := ready_mono F d
   rw [H.1] at this
   cases this
 | succ n ih =>
  intro l a w m L r M A H
  refine ⟨fun h => (by rw [h] at r; cases r), fun j F => ?_⟩
  by_cases d : j = i
  ·subst d
   exact (M.Ql ⟨L, (jy.1 r).1⟩).wpOp U (hm l w A) ⟨A, H⟩
  have h1 := H.2 j (ready_mono F d)
  obtain ⟨s, z, x, D⟩ := jy.1 F
  have I : ∀ e ∈ z.after, Region.binds .any e = true → e.on ≠ i := fun e he hb T => by
   have u := D e he hb
   have h0 := (jy.1 r).1
   rw [T] at u
   rcases Nat.lt_or_ge i l.size with O | O
   ·simp [O] at h0 u; rw [h0] at u; cases u
   ·simp [Array.getElem?_eq_none O] at u
  have u := LB x (m j z x d s I) (fun cs b => t i y cs b U) (fun cs b => t j z cs b x) hQ M h1
  have q : ∀ k ok, ops[k]? = some ok → k ≠ i → (l.setIfInBounds j true).getD k true = false → (∀ e ∈ ok.after, Region.binds .any e = true → e.on ≠ i) → y.apart ops ok = true := fun k ok hk W J Y => by
   refine m k ok hk W ?_ Y
   by_cases G : j = k
   ·subst G; exact s
   ·rw [jt true G] at J; exact J
  have g : (l.setIfInBounds i true).setIfInBounds j true = (l.setIfInBounds j true).setIfInBounds i true := Array.setIfInBounds_comm _ _ (Ne.symm d)
  refine wpOp_mono (fun a' Z R => ?_) u
  have h4 : S ((l.setIfInBounds j true).setIfInBounds i true) Z := by rw [← g]; exact R.2.1
  refine ⟨hm _ Z h4, ih (l.setIfInBounds j true) a' Z q (L.set F) (ready_mono r (Ne.symm d)) R.1 h4 ?_⟩
  rw [← g]
  exact R.2.2
end
def PX (P : Program) (n : Nat) (ops : Array Oper) (Q : pU) (S : Array Bool → World → Prop) (fuel : Nat) (listed : Array Bool) (E : Nat → Value) (W : World) : Prop :=
 we ops listed → ∀ a, Ag n a E → I6 P ops (lift n Q) S fuel listed a W
section
variable {P : Program} {n : Nat} {Q : pU} {E : Nat → Value} {W : World} {ops : Array Oper} {S : Array Bool → World → Prop} {fuel : Nat} {listed : Array Bool}
theorem HR {id : Nat} {l : List Oper} (S : Array Bool → World → Prop) (hm : P.follows .mixedOrders = true) (h : PX P n l.toArray Q S l.length (Array.replicate l.length false) E W.drew) : CW P n (.region id l.toArray true) Q E W := fun a ha =>
 wp_region_any hm (IL _ _ _ _ (h (we.start _ (by simp)) a ha))
def Aa (ops : Array Oper) (listed : Array Bool) (i : Nat) : Bool := Region.noSelect ops && Region.free .any ops listed i && (Region.ready .any ops listed).contains i
theorem kX {o : Oper} {dd : Nat} {v : Value} (i : Nat) (d : ops[i]? = some o) (hk : Aa ops listed i = true) (hw : kq n ops E o) (k : o.dst = some dd) (m : dd < n) (hm : ∀ l w, S (l.setIfInBounds i true) w → S l w) (j : S (listed.setIfInBounds i true) W) (q : ∀ l W, D3 ops i l → S l W → lV P E o W v W) (h : PX P n ops Q S fuel (listed.setIfInBounds i true) (nL E dd v) W) : PX P n ops Q S (fuel + 1) listed E W := fun c a ha => by
 simp only [Aa, bA] at hk
 have g : i ∈ Region.ready .any ops listed := by simpa using hk.2
 exact F8 d (Region.noSelect_spec hk.1.1) (fun _ _ _ h => h) hm fuel listed a W (Region.free_spec d hk.1.2) c g (.inl ⟨hw.of ha, fun l w hp b => by rw [ha.eval]; exact q l w hp b⟩) j (by rw [k]; exact h (c.set g) _ (ha.put m v))
theorem rH {A : Value → Prop} {o : Oper} {dd : Nat} (i : Nat) (d : ops[i]? = some o) (hk : Aa ops listed i = true) (hw : kq n ops E o) (c : o.dst = some dd) (g : dd < n) (hm : ∀ l w, S (l.setIfInBounds i true) w → S l w) (b : S (listed.setIfInBounds i true) W) (j : ∃ p, A p ∧ ∀ W, lV P E o W p W) (h : ∀ p, A p → PX P n ops Q S fuel (listed.setIfInBounds i true) (nL E dd p) W) : PX P n ops Q S (fuel + 1) listed E W := by
 obtain ⟨p, h1, a⟩ := j
 exact kX i d hk hw c g hm b (fun _ W _ _ => a W) (h p h1)
theorem Jp {o : Oper} {dd : Nat} (i : Nat) (c : ops[i]? = some o) (hk : Aa ops listed i = true) (hw : ∀ a, Ag n a E → Region.wanted o (yielded ops a.tmps) = false) (j : o.dst = some dd) (k : dd < n) (hm : ∀ l w, S (l.setIfInBounds i true) w → S l w) (g : S (listed.setIfInBounds i true) W) (h : PX P n ops Q S fuel (listed.setIfInBounds i true) (nL E dd undef) W) : PX P n ops Q S (fuel + 1) listed E W := fun b a ha => by
 simp only [Aa, bA] at hk
 have d : i ∈ Region.ready .any ops listed := by simpa using hk.2
 exact F8 c (Region.noSelect_spec hk.1.1) (fun _ _ _ h => h) hm fuel listed a W (Region.free_spec c hk.1.2) b d (.inr ⟨hw a ha, rfl⟩) g (by rw [j]; exact h (b.set d) _ (ha.put k _))
theorem PL {o : Oper} {dd j t : Nat} {want : Bool} (i : Nat) (k : ops[i]? = some o) (hk : Aa ops listed i = true) (g : o.guard = some (j, want)) (m : (ops[j]?).bind (·.dst) = some t) (r : t < n) (b : E t = .bool (!want)) (d : o.dst = some dd) (q : dd < n) (hm : ∀ l w, S (l.setIfInBounds i true) w → S l w) (c : S (listed.setIfInBounds i true) W) (h : PX P n ops Q S fuel (listed.setIfInBounds i true) (nL E dd undef) W) : PX P n ops Q S (fuel + 1) listed E W :=
 Jp i k hk (fun a ha => by have s := ha.yield m r b; simp [Region.wanted, g, s]) d q hm c h
theorem PE {o : Oper} {dd j t : Nat} {want : Bool} (i : Nat) (k : ops[i]? = some o) (hk : Aa ops listed i = true) (g : o.guard = some (j, want)) (m : (ops[j]?).bind (·.dst) = some t) (r : t < n) (b : E t = undef) (d : o.dst = some dd) (q : dd < n) (hm : ∀ l w, S (l.setIfInBounds i true) w → S l w) (c : S (listed.setIfInBounds i true) W) (h : PX P n ops Q S fuel (listed.setIfInBounds i true) (nL E dd undef) W) : PX P n ops Q S (fuel + 1) listed E W :=
 Jp i k hk (fun a ha => by have s := ha.Fc m r b; simp [Region.wanted, g, s]) d q hm c h
theorem OG {o : Oper} {dd : Nat} (i : Nat) (s : ops[i]? = some o) (d : Region.ready .any ops listed = [i]) (hw : kq n ops E o) (k : o.dst = some dd) (l : dd < n) (h : mL P E o W fun v W' => S (listed.setIfInBounds i true) W' ∧ PX P n ops Q S fuel (listed.setIfInBounds i true) (nL E dd v) W') : PX P n ops Q S (fuel + 1) listed E W := fun g a ha => by
 have b : i ∈ Region.ready .any ops listed := by rw [d]; simp
 refine ⟨fun r => (by rw [r] at d; cases d), fun j m => ?_⟩
 rw [d] at m
 obtain rfl := bM.1 m
 unfold wpOp
 simp only [s]
 rw [aZ (hw.of ha)]
 refine .inl ?_
 unfold Oper.wp
 rw [ha.eval]
 rcases h with ⟨v, W', h1, c⟩ | ⟨W', h1, c⟩ | ⟨f, args, h1, c⟩
 ·rw [h1, fR]; exact ⟨c.1, by rw [k]; exact c.2 (g.set b) _ (ha.put l v)⟩
 ·rw [h1, fZ]; exact ⟨c.1, by rw [k]; exact c.2 (g.set b) _ (ha.put l _)⟩
 ·rw [h1, fS]
  refine dC c ?_
  rintro e t ⟨v, rfl, q⟩
  exact ⟨q.1, by simp only [k]; exact q.2 (g.set b) _ (ha.put l v)⟩
theorem PR {o : Oper} (i : Nat) (r : ops[i]? = some o) (d : Region.ready .any ops listed = [i]) (hw : kq n ops E o) (k : o.dst = none) (h : mL P E o W fun _ W' => S (listed.setIfInBounds i true) W' ∧ PX P n ops Q S fuel (listed.setIfInBounds i true) E W') : PX P n ops Q S (fuel + 1) listed E W := fun g a ha => by
 have b : i ∈ Region.ready .any ops listed := by rw [d]; simp
 refine ⟨fun q => (by rw [q] at d; cases d), fun j l => ?_⟩
 rw [d] at l
 obtain rfl := bM.1 l
 unfold wpOp
 simp only [r]
 rw [aZ (hw.of ha)]
 refine .inl ?_
 unfold Oper.wp
 rw [ha.eval]
 rcases h with ⟨v, W', h1, c⟩ | ⟨W', h1, c⟩ | ⟨f, args, h1, c⟩
 ·rw [h1, fR, k]; exact ⟨c.1, c.2 (g.set b) _ (ha.xN _)⟩
 ·rw [h1, fZ, k]; exact ⟨c.1, c.2 (g.set b) _ (ha.xN _)⟩
 ·rw [h1, fS]
  refine dC c ?_
  rintro e s ⟨v, rfl, m⟩
  simp only [k]
  exact ⟨m.1, m.2 (g.set b) _ (ha.xN _)⟩
theorem kV (c : Region.ready .any ops listed = []) (h : Q .normal E W) : PX P n ops Q S fuel listed E W := fun _ a ha => by
 cases fuel with
 | zero => exact ⟨c, E, ha, h⟩
 | succ f => exact ⟨fun _ => ⟨E, ha, h⟩, fun i b => by rw [c] at b; cases b⟩
theorem ym {p : Prop} {b : Bool} (a : b = true) (h : b = false) : p := by rw [a] at h; cases h
theorem lU {a : Array Bool} (b : listed = a) (h : PX P n ops Q S fuel a E W) : PX P n ops Q S fuel listed E W := by rw [b]; exact h
theorem CO {o r : Oper} {d s : Nat} (i j : Nat) (G : ops[i]? = some o) (I : ops[j]? = some r) (m : Region.ready .any ops listed = [i, j]) (hw : kq n ops E o) (x : kq n ops E r) (g : o.dst = some d) (u : r.dst = some s) (l : d < n) (w : s < n) (h : mL P E o W fun v W' => S (listed.setIfInBounds i true) W' ∧ PX P n ops Q S fuel (listed.setIfInBounds i true) (nL E d v) W') (D : mL P E r W fun v W' => S (listed.setIfInBounds j true) W' ∧ PX P n ops Q S fuel (listed.setIfInBounds j true) (nL E s v) W') : PX P n ops Q S (fuel + 1) listed E W := fun t a ha => by
 have key : ∀ (k : Nat) (q : Oper) (e : Nat), ops[k]? = some q → k ∈ Region.ready .any ops listed → kq n ops E q → q.dst = some e → e < n → (mL P E q W fun v W' => S (listed.setIfInBounds k true) W' ∧ PX P n ops Q S fuel (listed.setIfInBounds k true) (nL E e v) W') →
   wpOp P ops (lift n Q) k (fun A y => S (listed.setIfInBounds k true) y ∧ I6 P ops (lift n Q) S fuel (listed.setIfInBounds k true) A y) a W := by
  intro k q e hk b hw g l h
  unfold wpOp
  simp only [hk]
  rw [aZ (hw.of ha)]
  refine .inl ?_
  unfold Oper.wp
  rw [ha.eval]
  rcases h with ⟨v, W', h1, c⟩ | ⟨W', h1, c⟩ | ⟨f, args, h1, c⟩
  ·rw [h1, fR]; exact ⟨c.1, by rw [g]; exact c.2 (t.set b) _ (ha.put l v)⟩
  ·rw [h1, fZ]; exact ⟨c.1, by rw [g]; exact c.2 (t.set b) _ (ha.put l _)⟩
  ·rw [h1, fS]
   refine dC c ?_
   rintro e y ⟨v, rfl, z⟩
   exact ⟨z.1, by simp only [g]; exact z.2 (t.set b) _ (ha.put l v)⟩
 refine ⟨fun F => (by rw [F] at m; cases m), fun k hk => ?_⟩
 rw [m] at hk
 rcases aQ.1 hk with rfl | hk
 ·exact key _ o d G (by rw [m]; simp) hw g l h
 ·obtain rfl := bM.1 hk
  exact key _ r s I (by rw [m]; simp) x u w D
theorem lF {l : Array Bool} {i j : Nat} {A : Prop} (a : Nat.beq i j = false) (h : (l.setIfInBounds i true).getD j true = false → A) : l.getD j true = false → A := fun b => h (by
 rw [jt true (fun e => by subst e; simp at a)]; exact b)
end
theorem zK.at {α : Type} {e : TypeId} {enc : α → List Value} {k : Nat} {v : Value} {l : List α} {R : List (Nat × Obj)} (h : kk e enc k v l R) (hk : ∀ x, (enc x).length = k) {p : Value} {i : Nat} (hp : zK R k p i) {x : α} (d : l[i]? = some x) : At (Az R) p (enc x) := by
 obtain ⟨b, a, cap, rfl, rfl, _, _, _, _, rfl, c⟩ := zt h hk hp d
 exact ⟨b, i * k, a, e, (0, 0), rfl, by simp [Az], c⟩
theorem uL.form {κ β : Type} {kenc : κ → Value} {vf : β → Value} {μ : km} {v : Value} {l : List (κ × β)} (h : uL kenc vf μ v l) : ∃ r, v = .map r := by
 rcases h with ⟨h, _⟩ | ⟨m, es, clock, h, _⟩
 ·exact ⟨_, h⟩
 ·exact ⟨_, h⟩
noncomputable def ES {β : Type} (l : List (ByteArray × β)) : Option (List ByteArray) :=
 open Classical in if (l.map (·.1)).Nodup ∧ (∀ p ∈ l, p.1.size ≤ maxLen) ∧ l.length * 16 ≤ 140737488355328 then some (tL (l.map (·.1))) else none
def Lq {κ κ2 β α : Type} (a : Nat) (mk : κ → κ2 → α) (l : List (κ × List (κ2 × β))) : Option (List α) :=
 if (l.flatMap (fun p => p.2.map (fun q => mk p.1 q.1))).length * a ≤ 140737488355328 ∧ (l.flatMap (fun p => p.2.map (fun q => mk p.1 q.1))).length ≤ maxLen then some (l.flatMap (fun p => p.2.map (fun q => mk p.1 q.1))) else none
end Go.Proofs.YtmlncblocfcmiaaGreat
namespace Go.Proofs.YtmlncblocfcmiaaGreat
open Go.RowKit
section
variable {P : Program} {n : Nat} {Q : pU} {E : Nat → Value} {W : World} {ops : Array Oper} {rest : List Oper}
variable {dd : Bool} {α : Type} {enc : α → List Value} {k : Nat} {μ : km} {v : Value}
variable {d : Option Nat} {ty : TypeId} {pos : String} {af : Array Edge} {g : Option (Nat × Bool)} {F : Nat → Prop} {w : World} {L : List (Nat × Obj)}
def F6 (enc : α → List Value) (k : Nat) : pj (List α) := fun μ ys x => ∃ v, ys = [v] ∧ Sl (Pl enc) k μ v x
theorem F6.mono (enc : α → List Value) (k : Nat) : E0 (F6 enc k) := fun _ _ _ _ b ⟨v, h1, a⟩ => ⟨v, h1, a.mono (Pl.mono _) b⟩
inductive Af (enc : α → List Value) (k : Nat) (μ : km) : List Value → List (List α) → Prop
 | nil : Af enc k μ [] []
 | cons {v : Value} {x : List α} {vs : List Value} {l : List (List α)} : Sl (Pl enc) k μ v x → Af enc k μ vs l → Af enc k μ (v :: vs) (x :: l)
theorem Af.length {vs : List Value} {l : List (List α)} (h : Af enc k μ vs l) : vs.length = l.length := by
 induction h with
 | nil => rfl
 | cons _ _ ih => simp [ih]
theorem Af.get {vs : List Value} {l : List (List α)} (h : Af enc k μ vs l) : ∀ (i : Nat) (x : List α), l[i]? = some x → ∃ v, vs[i]? = some v ∧ Sl (Pl enc) k μ v x := by
 induction h with
 | nil => intro i x a; simp at a
 | cons h1 _ ih =>
  intro i x a
  cases i with
  | zero => simp at a; subst a; exact ⟨_, rfl, h1⟩
  | succ i => simpa using ih i x (by simpa using a)
theorem F6.lit {b m : Nat} {vs : List Value} {e : TypeId} {l : List (List α)} (hm : l.length = m) (d : m ≤ maxLen) (g : μ b = some (.cells vs.toArray e (0, 0))) (h : Af enc k μ vs l) : Sl (F6 enc k) 1 μ (.slice (some ⟨b, 0, none⟩) m m) l := by
 subst hm
 refine ⟨_, _, rfl, aV _, d, fun _ => ⟨b, 0, _, _, _, rfl, g, fun i x n => ?_⟩⟩
 obtain ⟨v, h1, c⟩ := h.get i x n
 refine ⟨[v], rfl, ⟨v, rfl, c⟩, fun j y a => ?_⟩
 cases j with
 | zero => simp at a; subst a; simpa using h1
 | succ j => simp at a
theorem HU {k2 : Nat} {t e : TypeId} {x a : Operand} {r : IntKind} {i : Int} {l : List (List α)} {x0 : List α} (o : P.underlying t = some (.slice e)) (he : ∀ w, (sizeOf e).run P w = .ok 1 w) (q : jP E x = v) (k : jP E a = .int r i) (n : Sl (F6 enc k2) 1 μ v l) (b : 0 ≤ i) (m : l[i.toNat]? = some x0) :
  ∃ p, (∃ v0, At μ p [v0] ∧ Sl (Pl enc) k2 μ v0 x0) ∧ ∀ W, lV P E ⟨d, .indexAddr t x a, ty, pos, af, g⟩ W p W := by
 obtain ⟨p, ys, h1, ⟨v0, rfl, c⟩, h, j⟩ := FR (d := d) (ty := ty) (pos := pos) (af := af) (g := g) o he q k n b m
 exact ⟨p, ⟨v0, h, c⟩, j⟩
theorem G8 {x : Operand} {t e : TypeId} (a : P.underlying t = some (.slice e)) (b : jP E x = .slice none 0 0) : lV P E ⟨d, .call ⟨.builtin .cap, #[x], #[t]⟩, ty, pos, af, g⟩ W (.int .i64 0) W := by
 show (do let d ← resolve (jP E) ⟨.builtin .cap, #[x], #[t]⟩ ty; invoke d.target d.args : Sem Next).run P W = _
 simp [resolve, invoke, builtin, Builtin.cap_, aT a, b, goInt]
theorem OK {x y : Operand} {ats : Array TypeId} {k : IntKind} {a b : Int} (c : jP E x = .int k a) (h : jP E y = .int k b) :
  lV P E ⟨d, .call ⟨.builtin .max, #[x, y], ats⟩, ty, pos, af, g⟩ W (.int k (if b > a then b else a)) W := by
 show (do let d ← resolve (jP E) ⟨.builtin .max, #[x, y], ats⟩ ty; invoke d.target d.args : Sem Next).run P W = _
 simp [resolve, invoke, c, h, builtin, Builtin.max_, Builtin.max2]
theorem Jt {t e : TypeId} {x ih : Operand} {h : IntKind} (b : P.underlying t = some (.slice e)) (he : ∀ w, (sizeOf e).run P w = .ok k w) (c : jP E x = .slice none 0 0) (a : jP E ih = .int h 0) :
  lV P E ⟨d, .slice t x none (some ih) none, ty, pos, af, g⟩ W (.slice none 0 0) W := by
 show (do pure (.value (← Instr.sliceAt t (jP E x) none (some (jP E ih)) none)) : Sem Next).run P W = _
 rw [c, a]
 simp [Instr.sliceAt, Instr.slice, Instr.sliceBounds, Instr.sliceBound, asIntOf, aT b, he W]
def EP {α : Type} (a : Nat) (z : α) (n : Int) : Option (List α) := if 0 < n ∧ n * a ≤ 140737488355328 ∧ n ≤ (maxLen : Int) then some (List.replicate n.toNat z) else none
theorem E7 (t k ty e : TypeId) (i : TypeInfo) (z : Value) (u : P.underlying t = some (.slice e)) (j : P.underlying k = some (.int .i64)) (o : P.info? e = some i) (v : i.zero = some z) (n : Nat) (l : 0 < n) (s : 0 < i.size) (m : n ≤ 9223372036854775807) (c : n * i.bytes ≤ 140737488355328) (W : World) :
  (Builtin.append_ #[t, k] ty #[.slice none 0 0, .int .i64 (n : Int)]).run P W =
   .ok (.slice (some ⟨W.heap.size, 0, none⟩) n (grownCap W n 0 e)) (W.drew.alloc (.cells (Builtin.zeroCells z.cells n ++ Builtin.zeroCells z.cells (grownCap W n 0 e - n)) e)) := by
 have hw : IntKind.i64.wrap (n : Int) = (n : Int) := by unfold IntKind.wrap; simp [IntKind.bits, IntKind.signed]; omega
 have h1 : ¬ ((n : Int) < 0) := by omega
 have a : ¬ (281474976710656 < (n : Int) * i.bytes) := by
  have := Int.ofNat_le.2 c
  rw [Int.natCast_mul] at this
  omega
 have d : ¬ (n * i.size = 0) := fun h => by rcases Nat.mul_eq_zero.1 h with h | h <;> omega
 have q : n ≠ 0 := by omega
 have r : i.size ≠ 0 := by omega
 have b : ¬ (9223372036854775807 < (n : Int)) := by omega
 have g : ¬ (281474976710656 < Builtin.nextslicecap n 0 * i.bytes) := by rw [nextslicecap_zero l]; omega
 simp [Builtin.append_, aT u, aT j, sizeOf, typeInfo, zeroValue, o, v, asInt, asIntOf, hw, h1, a, q, b, g, Question.forced, run_firstCells_none, newRow, grownCap]
 exact fun h => absurd h d
theorem Hw {K : Value → World → Prop} {α : Type} {e t A : TypeId} {enc : α → List Value} {k q : Nat} {c : Value} {n : Int} {z : α} {r : List α} (X : List (Nat × Obj)) {Y : List (Nat × Obj)} {x y : Operand} {i : TypeInfo} (j : ST dd F w W μ (X ++ Y)) (hk : ∀ x, (enc x).length = k) (R : 0 < k) (ht : P.underlying t = some (.slice e)) (Z : P.underlying A = some (.int .i64)) (hi : P.info? e = some i) (hz : i.zero = some c) (U : i.size = k) (L : i.bytes = q) (hc : c.cells = (enc z).toArray) (hx : jP E x = .slice none 0 0) (hy : jP E y = .int .i64 n) (a : EP q z n = some r) (h : ∀ W' v' R', ST dd F w W' μ (X ++ (R' ++ Y)) → kk e enc k v' r R' → K v' W') : mL P E ⟨d, .call ⟨.builtin .append, #[x, y], #[t, A]⟩, ty, pos, af, g⟩ W K := by
 unfold EP at a
 split at a
 case isFalse => cases a
 rename_i J
 cases a
 obtain ⟨n, rfl⟩ : ∃ m : Nat, n = (m : Int) := ⟨n.toNat, by omega⟩
 have T : 0 < n := by omega
 subst U; subst L
 have hM : n ≤ maxLen := by omega
 have I : n ≤ 9223372036854775807 := by simp only [maxLen] at hM; omega
 have G : n * i.bytes ≤ 140737488355328 := Int.ofNat_le.1 (by rw [Int.natCast_mul]; exact J.2.1)
 have hr := E7 (P := P) t A ty e i c ht Z hi hz n T R I G W
 have u : (execOp (jP E) ⟨d, .call ⟨.builtin .append, #[x, y], #[t, A]⟩, ty, pos, af, g⟩).run P W = .ok (.value (.slice (some ⟨W.heap.size, 0, none⟩) n (grownCap W n 0 e))) (W.drew.alloc (.cells (Builtin.zeroCells c.cells n ++ Builtin.zeroCells c.cells (grownCap W n 0 e - n)) e)) := by
  show (do let d ← resolve (jP E) ⟨.builtin .append, #[x, y], #[t, A]⟩ ty; invoke d.target d.args : Sem Next).run P W = _
  simp [resolve, invoke, builtin, hx, hy, hr]
 have O := nN _ _ _ _ hr
 refine .inl ⟨_, _, u, ?_⟩
 have Q := grownCap_ge W n 0 e
 have M : grownCap W n 0 e ≤ maxLen := gS W n 0 e hM
 have a1 : ∀ m, (Builtin.zeroCells c.cells m).toList = (List.replicate m (enc z)).flatten := fun m => by rw [hc, AH]
 have v : c.cells.size = i.size := by rw [hc, dK, hk]
 have l : kk e enc i.size (.slice (some ⟨W.heap.size, 0, none⟩) n (grownCap W n 0 e)) (List.replicate n z) [(W.heap.size, .cells (Builtin.zeroCells c.cells n ++ Builtin.zeroCells c.cells (grownCap W n 0 e - n)) e (0, 0))] := by
  refine .inr ⟨W.heap.size, grownCap W n 0 e, _, by rw [gr], rfl, by simpa using Q, M, ?_, ?_⟩
  ·simp only [Array.size_append, size_zeroCells, v, ← cN]
   congr 1
   omega
  ·have D : (Builtin.zeroCells c.cells n).toList.length = n * i.size := by rw [dl, size_zeroCells, v]
   rw [gr, Array.toList_append, ← D, List.take_left, a1, gU]
 refine h _ _ _ ?_ l
 have hex : Ex dd W (W.drew.alloc (.cells (Builtin.zeroCells c.cells n ++ Builtin.zeroCells c.cells (grownCap W n 0 e - n)) e)) := ⟨rfl, rfl, rfl, su.of O, by simp, fun b a => heap_alloc_old W.drew _ a⟩
 have h1 := j.E8 hex
 have s := h1.nd
 refine ⟨h1.os, h1.tape, h1.output, h1.drawn, h1.size, h1.mh, h1.mem, fun b o a => ?_, ?_⟩
 ·simp only [aR, bM] at a
  rcases a with a | a | a
  ·exact h1.box b o (by simp [a])
  ·cases a
   refine ⟨heap_alloc_new W.drew _, ?_, .inl j.size⟩
   cases hm : μ W.heap.size with
   | none => rfl
   | some x => have := j.BL hm; omega
  ·exact h1.box b o (by simp [a])
 ·simp only [cD, bH, fk, fx] at s ⊢
  refine (fO eJ).2 (dn.2 ⟨fun hm => ?_, s⟩)
  rw [← cD] at hm
  obtain ⟨⟨b, o⟩, a, D⟩ := bB.1 hm
  have := j.Dg a
  simp at D
  omega
end
end Go.Proofs.YtmlncblocfcmiaaGreat
namespace Go.Proofs.YtmlncblocfcmiaaGreat
open Go.RowKit
variable {dd : Bool}
section
variable {P : Program} {fn : Func} {R : Ending → World → Prop} {E : Nat → Value} {W : World}
theorem pN {a : Tmp} {t0 : TypeId} {a0 : Addr} {v0 : Value} {b : Tmp} {v1 : Value} (d : fn.results = #[.cell a t0, .tmp b]) (c : E a = .pointer (some a0)) (i : (Instr.loadAt t0 (.pointer (some a0))).run P W = .ok v0 W) (h1 : E b = v1) (h : R (.returned (.tuple #[v0, v1])) W) : xz P fn R .ret E W :=
 ⟨.tuple #[v0, v1], fun tmps g => by
  have j : (loadVar t0 a0).run P W = .ok v0 W := by simpa [Instr.loadAt, Instr.sureAddr] using i
  simp [results, d, g, asAddr, c, j, h1], h⟩
end
end Go.Proofs.YtmlncblocfcmiaaGreat
namespace Go.Proofs.YtmlncblocfcmiaaGreat
open Go.RowKit
section
variable {x y : Nat × Obj} {A B C L R S : List (Nat × Obj)}
theorem Pz : (x :: A).Perm (x :: A) := .refl _
theorem Pb (h : A.Perm (x :: B)) : (y :: A).Perm (x :: y :: B) := (h.cons y).trans (.swap ..)
theorem Pr (h : A.Perm (x :: B)) : (S ++ A).Perm (x :: (S ++ B)) := (h.append_left S).trans eJ
theorem Qz : (R ++ A).Perm (R ++ A) := .refl _
theorem Qb (h : A.Perm (R ++ B)) : (y :: A).Perm (R ++ (y :: B)) := (h.cons y).trans List.perm_middle.symm
theorem Qr (h : A.Perm (R ++ B)) : (S ++ A).Perm (R ++ (S ++ B)) := (h.append_left S).trans (fA S R B)
def mB (L L' : List (Nat × Obj)) : Prop := ∃ M, L.Perm (L' ++ M)
theorem Sn : mB L [] := ⟨L, .refl _⟩
theorem St : mB L L := ⟨[], by rw [bP]⟩
theorem Sb (h : L.Perm (x :: A)) (k : mB A B) : mB L (x :: B) := let ⟨M, m⟩ := k; ⟨M, h.trans (m.cons x)⟩
theorem Sr (h : L.Perm (R ++ A)) (k : mB A B) : mB L (R ++ B) := let ⟨M, m⟩ := k; ⟨M, by rw [aN]; exact h.trans (m.append_left R)⟩
theorem Kb (k : mB A B) : mB (x :: A) (x :: B) := Sb Pz k
theorem Kr (k : mB A B) : mB (R ++ A) (R ++ B) := Sr Qz k
theorem Db (k : mB A B) : mB (x :: A) B := let ⟨M, m⟩ := k; ⟨x :: M, (m.cons x).trans List.perm_middle.symm⟩
theorem Dr (k : mB A B) : mB (R ++ A) B := let ⟨M, m⟩ := k; ⟨R ++ M, (m.append_left R).trans (fA R B M)⟩
theorem mB.mem (s : mB L A) : ∀ p, p ∈ A → p ∈ L := fun p hp => let ⟨M, m⟩ := s; m.mem_iff.2 (cF _ hp)
theorem ST.jE {dd : Bool} {F : Nat → Prop} {w W : World} {μ : km} (h : ST dd F w W μ L) (s : mB L A) : ST dd F w W μ A := let ⟨M, m⟩ := s; (h.perm m).sublist (List.sublist_append_left A M)
theorem nt.jE {μ : km} {W : World} (h : nt μ L W) (s : mB L A) : nt μ A W := h.sub (kf.refl _) s.mem
theorem nt.oA {μ μ' : km} {W : World} (h : nt μ L W) (a : kf μ' μ) (s : mB L A) : nt μ' A W := h.sub a s.mem
theorem Cn : L.Perm ([] ++ L) := .refl _
theorem Cb (h : L.Perm (x :: A)) (k : A.Perm (B ++ C)) : L.Perm ((x :: B) ++ C) := h.trans (k.cons x)
theorem Cr (h : L.Perm (R ++ A)) (k : A.Perm (B ++ C)) : L.Perm ((R ++ B) ++ C) := by rw [aN]; exact h.trans (k.append_left R)
theorem C0 (k : L.Perm (B ++ C)) : L.Perm (([] ++ B) ++ C) := k
theorem Tn : ([] ++ A).Perm A := .refl _
theorem Tb (h : (A ++ B).Perm C) : ((x :: A) ++ B).Perm (x :: C) := h.cons x
theorem Tr (h : (A ++ B).Perm C) : ((R ++ A) ++ B).Perm (R ++ C) := by rw [aN]; exact h.append_left R
theorem Nb (h : L.Perm (x :: A)) (k : A.Perm B) : L.Perm (x :: B) := h.trans (k.cons x)
theorem Nr (h : L.Perm (R ++ A)) (k : A.Perm B) : L.Perm (R ++ B) := h.trans (k.append_left R)
theorem Nz : L.Perm L := .refl _
theorem QY {R' R1 : List (Nat × Obj)} (hp : R.Perm (R' ++ R1)) : (R ++ A).Perm (R' ++ (R1 ++ A)) := by rw [← aN]; exact hp.append_right A
theorem Mh : x ∈ x :: A := .head _
theorem Mt (h : x ∈ A) : x ∈ y :: A := .tail _ h
theorem Ma (h : x ∈ A) : x ∈ R ++ A := dR _ h
theorem Ml (h : x ∈ R) : x ∈ R ++ A := cF _ h
end
section
variable {dd : Bool} {F : Nat → Prop} {w W : World} {μ : km} {L L0 L1 Y R : List (Nat × Obj)}
theorem ST.Ni (h : ST dd kQ w W μ L) (s : mB L L1) : sI dd [] L1 w W := let ⟨_, m⟩ := s; (h.perm m).P6
theorem ST.mg (h : ST dd (keys L0) w W μ L) (s : mB L L1) : sI dd L0 L1 w W := let ⟨_, m⟩ := s; (h.perm m).PH
theorem ST.Hr : ∀ {R : List (Nat × Obj)} {μ : km}, ST dd F w W μ (R ++ Y) → ∃ μ', ST dd F w W μ' Y ∧ kf μ μ' ∧ Lo F w μ μ' ∧ ∀ b o, (b, o) ∈ R → μ' b = some o
 | [], μ, h => ⟨μ, h, kf.refl _, Lo.refl, fun _ _ h => by cases h⟩
 | (g, o) :: R, μ, h => by
  have c : ST dd F w W μ ([] ++ (g, o) :: (R ++ Y)) := h
  obtain ⟨μ', d, a2, a3, a4⟩ := ST.Hr (R := R) (ST.FE (A := []) c)
  refine ⟨μ', d, (ST.FL (A := []) c).trans a2, (ST.Le (A := []) c).trans a3, fun b i a => ?_⟩
  rcases aQ.1 a with a | a
  ·cases a; exact a2 _ _ (aZ rfl)
  ·exact a4 b i a
theorem ST.Cl {α : Type} {e' : TypeId} {enc : α → List Value} {k : Nat} {v : Value} {l : List α} (a : ST dd F w W μ (R ++ Y)) (h : kk e' enc k v l R) (hk : ∀ x, (enc x).length = k) : ∃ μ', ST dd F w W μ' Y ∧ kf μ μ' ∧ Lo F w μ μ' ∧ Sl (Pl enc) k μ' v l := by
 obtain ⟨μ', b, a2, a3, a4⟩ := ST.Hr a
 exact ⟨μ', b, a2, a3, h.sl hk a4⟩
section
variable {P : Program} {n : Nat} {Q : pU} {E : Nat → Value} {V : World} {id : Nat} {l : List Oper} {A B C : List (Nat × Obj)}
theorem kM (a : nt μ A V.drew) (hm : P.follows .mixedOrders = true) (h : PX P n l.toArray Q (fun _ W => nt μ A W) l.length (Array.replicate l.length false) E V.drew) : CW P n (.region id l.toArray true) Q E V := HR _ hm h
theorem tV (i : Nat) (a : nt μ A V.drew) (h1 : nt μ B V.drew) (hm : P.follows .mixedOrders = true) (h : PX P n l.toArray Q (fun l W => nt μ A W ∧ (l.getD i true = false → nt μ B W)) l.length (Array.replicate l.length false) E V.drew) : CW P n (.region id l.toArray true) Q E V := HR _ hm h
end
structure ni (μ : km) (L0 : List (Nat × Obj)) (w : World) : Prop where
 H : Cm L0 w
 N : (L0.map (·.1)).Nodup
 S : kf μ (ta w L0)
theorem ST.Kv (h : ni μ L0 w) : ST dd (keys L0) w w μ L0 := (ST.Ps h.H h.N).lD h.S
end
section
variable {dd : Bool} {P : Program} {E : Nat → Value} {W : World} {d : Option Nat} {ty : TypeId} {pos : String} {af : Array Edge} {g : Option (Nat × Bool)} {F : Nat → Prop} {w : World} {μ : km} {L : List (Nat × Obj)}
theorem jY {K : Value → World → Prop} {B : List (Nat × Obj)} {t : TypeId} {x y : Operand} (v : Value) {b off : Nat} {cs : Array Value} {T : TypeId} (a : Array Value) (c : ST dd F w W μ ((b, .cells cs T (0, 0)) :: B)) (l : jP E x = .pointer (some ⟨b, off, none⟩)) (m : jP E y = v) (i : ∀ w, (sizeOf t).run P w = .ok v.cells.size w) (h1 : ∀ u ∈ v.cells.toList, u.oneCell' = true) (k : off + v.cells.size ≤ cs.size) (j : (cs.toList.take off ++ v.cells.toList ++ cs.toList.drop (off + v.cells.size)).toArray = a) (h : ∀ W', ST dd F w W' μ ((b, .cells a T (0, 0)) :: B) → K undef W') : mL P E ⟨d, .store t x y, ty, pos, af, g⟩ W K := NS [] v a c l m i h1 k j h
end
section
variable {dd : Bool}
variable {P : Program} {n : Nat} {Q : pU} {E : Nat → Value} {W : World} {ops : Array Oper} {rest : List Oper}
 {d : Option Nat} {ty : TypeId} {pos : String} {af : Array Edge} {g : Option (Nat × Bool)}
 {F : Nat → Prop} {w : World} {μ : km} {L : List (Nat × Obj)}
theorem oq {K : Value → World → Prop} {α : Type} {e t : TypeId} {enc : α → List Value} {k a : Nat} {z v vs : Value} {l m r : List α} {R Y : List (Nat × Obj)} {x y : Operand} {i : TypeInfo} (b : ST dd F w W μ (R ++ Y)) (hk : ∀ x, (enc x).length = k) (j : 0 < k) (h1 : ∀ x, ∀ u ∈ enc x, u.oneCell' = true) (I : P.underlying t = some (.slice e)) (D : P.info? e = some i) (M : i.zero = some z) (o : z.cells.size = k) (n : i.size = k) (c : i.bytes = a) (J : jP E x = v) (L : jP E y = vs) (s : kk e enc k v l R) (G : Sl (Pl enc) k (hp W) vs m) (A : mG a l m = some r) (h : ∀ W' q R', ST dd F w W' μ (R' ++ Y) → kk e enc k q r R' → K q W') : mL P E ⟨d, .call ⟨.builtin .append, #[x, y], #[t, t]⟩, ty, pos, af, g⟩ W K :=
 HB [] b hk j h1 I D M o n c J L s G A h
end
section
variable {dd : Bool}
variable {P : Program} {E : Nat → Value} {W : World} {d : Option Nat} {ty : TypeId} {pos : String} {af : Array Edge} {g : Option (Nat × Bool)}
 {F : Nat → Prop} {w : World} {μ : km} {L : List (Nat × Obj)}
theorem JM {K : Value → World → Prop} {α : Type} {e : TypeId} {enc : α → List Value} {k : Nat} {l : List α} {f : FuncId} {fv : Operand} {ax : Array Operand} {ats : Array TypeId} {caps : Array Value} {args : List Value} (Y : List (Nat × Obj)) (a : ST dd F w W μ Y) (c : jP E fv = .func (.func f) #[] caps) (he : ∀ args w, (callFunc f args).run P w = .ok (.enter f args) w) (ha : ax.map (jP E) ++ caps = args.toArray) (b : mw dd P f args W e enc k l) (h : ∀ W' v μ' R, ST dd F w W' μ' (R ++ Y) → kf μ μ' → Lo F w μ μ' → kk e enc k v l R → K v W') : mL P E ⟨d, .call ⟨.value fv, ax, ats⟩, ty, pos, af, g⟩ W K :=
 JB [] Y a c he ha b h
end
section
variable {dd : Bool}
variable {P : Program} {E : Nat → Value} {W : World} {d : Option Nat} {ty : TypeId} {pos : String} {af : Array Edge} {g : Option (Nat × Bool)}
 {F : Nat → Prop} {w : World} {μ : km} {L : List (Nat × Obj)} {α : Type} {e' : TypeId} {enc : α → List Value} {k : Nat} {v : Value} {l : List α} {R : List (Nat × Obj)}
theorem xq {K : Value → World → Prop} {Y : List (Nat × Obj)} {t : TypeId} {x y : Operand} {p u : Value} {i : Nat} {x0 x1 : α} (a : ST dd F w W μ (R ++ Y)) (h : kk e' enc k v l R) (hk : ∀ x, (enc x).length = k) (h1 : ∀ x, ∀ u ∈ enc x, u.oneCell' = true) (m : jP E x = p) (n : jP E y = u) (hu : u.cells = (enc x1).toArray) (hp : zK R k p i) (j : l[i]? = some x0) (c : ∀ w, (sizeOf t).run P w = .ok k w) (b : ∀ W' R', ST dd F w W' μ (R' ++ Y) → kk e' enc k v (l.set i x1) R' → K undef W') : mL P E ⟨d, .store t x y, ty, pos, af, g⟩ W K :=
 J8 [] a h hk h1 m n hu hp j c b
end
section
variable {dd : Bool}
variable {P : Program} {W : World} {κ : Type} {kt : TypeId} {kenc : κ → Value} {beq : κ → κ → Bool}
variable {β : Type} {vf : β → Value} {E : Nat → Value} {d : Option Nat} {ty : TypeId} {pos : String} {af : Array Edge} {g : Option (Nat × Bool)} {F : Nat → Prop} {w : World} {μ : km} {L : List (Nat × Obj)}
theorem DR {c : Value → World → Prop} {Y R : List (Nat × Obj)} {t e : TypeId} {m x y : Operand} {b : Value} {l : List (κ × β)} {k : κ} {v : β} (K : od P kt kenc beq) (j : P.underlying t = some (.map kt e)) (a : ST dd F w W μ (R ++ Y)) (h : lA kenc vf b l R) (hm : jP E m = b) (n : jP E x = kenc k) (o : jP E y = vf v) (i : ∀ W' R', ST dd F w W' μ (R' ++ Y) → lA kenc vf b (mS beq l k v) R' → c undef W') : mL P E ⟨d, .mapUpdate t m x y, ty, pos, af, g⟩ W c :=
 ya [] K j a h hm n o i
end
section
variable {dd : Bool}
variable {P : Program} {E : Nat → Value} {W : World} {d : Option Nat} {ty : TypeId} {pos : String} {af : Array Edge} {g : Option (Nat × Bool)}
 {F : Nat → Prop} {w : World} {μ : km} {L : List (Nat × Obj)} {α : Type} {e' : TypeId} {enc : α → List Value} {k : Nat} {v : Value} {l : List α} {R : List (Nat × Obj)}
theorem vY {K : Value → World → Prop} (z : α) {Y : List (Nat × Obj)} {t e : TypeId} {x : Operand} {u b : Value} {i : Nat} (a : ST dd F w W μ (R ++ Y)) (h : kk e' enc k v l R) (hk : ∀ x, (enc x).length = k) (h1 : ∀ x, ∀ u ∈ enc x, u.oneCell' = true) (m : P.underlying t = some (.slice e)) (o : ∀ w, (zeroValue e).run P w = .ok b w) (hu : yM k v i u) (j : b.cells = (enc z).toArray) (n : jP E x = u) (c : ∀ W' R', ST dd F w W' μ (R' ++ Y) → kk e' enc k v (nh l i z) R' → K (.tuple #[]) W') : mL P E ⟨d, .call ⟨.builtin .clear, #[x], #[t]⟩, ty, pos, af, g⟩ W K :=
 Ip z [] a h hk h1 m o hu j n c
end
section
variable {dd : Bool}
variable {κ γ : Type} {Q : Value → γ → List (Nat × Obj) → Prop} {beq : κ → κ → Bool} {kenc : κ → Value}
variable {P : Program} {W : World} {kt : TypeId} {E : Nat → Value} {d : Option Nat} {ty : TypeId} {pos : String} {af : Array Edge} {g : Option (Nat × Bool)} {F : Nat → Prop} {w : World} {μ : km} {L : List (Nat × Obj)}
variable {κ2 β : Type} {kenc2 : κ2 → Value} {vf : β → Value} {beq2 : κ2 → κ2 → Bool} {kt2 : TypeId}
theorem Lz {c : Value → World → Prop} {Y R : List (Nat × Obj)} {t e : TypeId} {m x y : Operand} {j : Value} {b : List (κ × Value)} {l i : List (κ × List (κ2 × β))} {k : κ} {k2 : κ2} {v : β} (hk : ∀ {x y : κ}, beq x y = true → x = y) (K : od P kt2 kenc2 beq2) (q : P.underlying t = some (.map kt2 e)) (a : ST dd F w W μ (R ++ Y)) (h : my kenc (lA kenc2 vf) j b l R) (hm : jP E m = qz beq b k (.map none)) (r : jP E x = kenc2 k2) (s : jP E y = vf v) (o : Eu beq beq2 l k k2 v = some i) (n : ∀ W' R', ST dd F w W' μ (R' ++ Y) → my kenc (lA kenc2 vf) j b i R' → c undef W') : mL P E ⟨d, .mapUpdate t m x y, ty, pos, af, g⟩ W c :=
 LL [] hk K q a h hm r s o n
end
section
variable {dd : Bool}
variable {κ γ : Type} {Q : Value → γ → List (Nat × Obj) → Prop} {beq : κ → κ → Bool} {kenc : κ → Value}
variable {P : Program} {W : World} {kt : TypeId} {E : Nat → Value} {d : Option Nat} {ty : TypeId} {pos : String} {af : Array Edge} {g : Option (Nat × Bool)} {F : Nat → Prop} {w : World} {μ : km} {L : List (Nat × Obj)}
variable {κ2 β : Type} {kenc2 : κ2 → Value} {vf : β → Value} {beq2 : κ2 → κ2 → Bool} {kt2 : TypeId}
theorem KM {c : Value → World → Prop} {Y R R2 : List (Nat × Obj)} {t e : TypeId} {m x y : Operand} {b : Value} {j : List (κ × Value)} {l i : List (κ × γ)} {k : κ} {u : Value} {z : γ} (K : od P kt kenc beq) (r : P.underlying t = some (.map kt e)) (a : ST dd F w W μ (R ++ (R2 ++ Y))) (h : my kenc Q b j l R) (hm : jP E m = b) (s : jP E x = kenc k) (v : jP E y = u) (q : Q u z R2) (o : EG beq l k z = some i) (n : ∀ W' R', ST dd F w W' μ (R' ++ Y) → my kenc Q b (mS beq j k u) i R' → c undef W') : mL P E ⟨d, .mapUpdate t m x y, ty, pos, af, g⟩ W c :=
 Ks [] K r a h hm s v q o n
end
section
variable {dd : Bool}
variable {κ γ : Type} {Q : Value → γ → List (Nat × Obj) → Prop} {beq : κ → κ → Bool} {kenc : κ → Value}
variable {P : Program} {W : World} {kt : TypeId} {E : Nat → Value} {d : Option Nat} {ty : TypeId} {pos : String} {af : Array Edge} {g : Option (Nat × Bool)} {F : Nat → Prop} {w : World} {μ : km} {L : List (Nat × Obj)}
theorem OM {c : Value → World → Prop} {Y R R1 : List (Nat × Obj)} {t e : TypeId} {m x y : Operand} {b : Value} {i : List (κ × Value)} {l : List (κ × γ)} {k : κ} {u : Value} {z : γ} (K : od P kt kenc beq) (o : P.underlying t = some (.map kt e)) (a : ST dd F w W μ (R ++ (R1 ++ Y))) (h : Kc beq kenc Q b i l k R) (hm : jP E m = b) (q : jP E x = kenc k) (r : jP E y = u) (n : Q u z R1) (j : ∀ W' R', ST dd F w W' μ (R' ++ Y) → my kenc Q b (mS beq i k u) (mS beq l k z) R' → c undef W') : mL P E ⟨d, .mapUpdate t m x y, ty, pos, af, g⟩ W c :=
 OR [] K o a h hm q r n j
end
section
variable {dd : Bool}
variable {κ γ : Type} {Q : Value → γ → List (Nat × Obj) → Prop} {beq : κ → κ → Bool} {kenc : κ → Value}
variable {P : Program} {W : World} {kt : TypeId} {E : Nat → Value} {d : Option Nat} {ty : TypeId} {pos : String} {af : Array Edge} {g : Option (Nat × Bool)} {F : Nat → Prop} {w : World} {μ : km} {L : List (Nat × Obj)}
theorem Jw {i : Value → World → Prop} {Y R : List (Nat × Obj)} {t e : TypeId} {m x : Operand} {c z : Value} {x0 : γ} {s : List (κ × Value)} {l : List (κ × γ)} {k : κ} (hk : ∀ {x y : κ}, beq x y = true ↔ x = y) (K : od P kt kenc beq) (o : P.underlying t = some (.map kt e)) (r : ∀ w, (zeroValue e).run P w = .ok z w) (b : Q z x0 []) (a : ST dd F w W μ (R ++ Y)) (h : my kenc Q c s l R) (hm : jP E m = c) (q : jP E x = kenc k) (n : ∀ W' v j R' R1, ST dd F w W' μ (R' ++ (R1 ++ Y)) → Q v ((lg beq l k).getD x0) R1 → GZ beq kenc Q c l k j R' → i (.tuple #[v, .int .i64 (j : Nat)]) W') : mL P E ⟨d, .mapEntry t m x, ty, pos, af, g⟩ W i :=
 JS [] hk K o r b a h hm q n
end
section
variable {dd : Bool}
variable {κ γ : Type} {Q : Value → γ → List (Nat × Obj) → Prop} {beq : κ → κ → Bool} {kenc : κ → Value}
variable {P : Program} {W : World} {kt : TypeId} {E : Nat → Value} {d : Option Nat} {ty : TypeId} {pos : String} {af : Array Edge} {g : Option (Nat × Bool)} {F : Nat → Prop} {w : World} {μ : km} {L : List (Nat × Obj)}
theorem HX {i : Value → World → Prop} {Y R R1 : List (Nat × Obj)} {t e : TypeId} {m s y : Operand} {c u : Value} {z : γ} {l : List (κ × γ)} {k : κ} {j : Nat} (hk : ∀ {x y : κ}, beq x y = true ↔ x = y) (K : od P kt kenc beq) (a : ST dd F w W μ (R ++ (R1 ++ Y))) (h : GZ beq kenc Q c l k j R) (hm : jP E m = c) (q : jP E s = .int .i64 (j : Nat)) (r : jP E y = u) (o : Q u z R1) (n : ∀ W' b R', ST dd F w W' μ (R' ++ Y) → my kenc Q c b (mS beq l k z) R' → i undef W') : mL P E ⟨d, .entryStore t m s y, ty, pos, af, g⟩ W i :=
 Ie (e := e) [] hk K a h hm q r o n
end
section
variable {dd : Bool}
variable {α : Type} {e : TypeId} {enc : α → List Value} {k : Nat} {v : Value} {l : List α} {R : List (Nat × Obj)}
variable {P : Program} {W : World} {E : Nat → Value} {d : Option Nat} {ty : TypeId} {pos : String} {af : Array Edge} {g : Option (Nat × Bool)} {F : Nat → Prop} {w : World} {μ : km} {L : List (Nat × Obj)}
theorem Iv {K : Value → World → Prop} {t : TypeId} {a : Nat} {z vs : Value} {m r : List α} {Y : List (Nat × Obj)} {x y : Operand} {i : TypeInfo} (b : ST dd F w W μ (R ++ Y)) (hk : ∀ x, (enc x).length = k) (j : 0 < k) (h1 : ∀ x, ∀ u ∈ enc x, u.oneCell' = true) (I : P.underlying t = some (.slice e)) (D : P.info? e = some i) (M : i.zero = some z) (o : z.cells.size = k) (n : i.size = k) (c : i.bytes = a) (J : jP E x = v) (L : jP E y = vs) (s : pA e enc k v l R) (G : Sl (Pl enc) k (hp W) vs m) (A : mG a l m = some r) (h : ∀ W' q R', ST dd F w W' μ (R' ++ Y) → pA e enc k q r R' → K q W') : mL P E ⟨d, .call ⟨.builtin .append, #[x, y], #[t, t]⟩, ty, pos, af, g⟩ W K :=
 IC [] b hk j h1 I D M o n c J L s G A h
end
section
variable {P : Program} {n : Nat} {Q : pU} {E : Nat → Value} {W : World} {ops : Array Oper} {rest : List Oper}
variable {dd : Bool} {α : Type} {enc : α → List Value} {k : Nat} {μ : km} {v : Value}
variable {d : Option Nat} {ty : TypeId} {pos : String} {af : Array Edge} {g : Option (Nat × Bool)} {F : Nat → Prop} {w : World} {L : List (Nat × Obj)}
theorem Hx {K : Value → World → Prop} {α : Type} {e t o : TypeId} {enc : α → List Value} {k a : Nat} {s : Value} {n : Int} {z : α} {r : List α} {Y : List (Nat × Obj)} {x y : Operand} {i : TypeInfo} (b : ST dd F w W μ Y) (hk : ∀ x, (enc x).length = k) (j : 0 < k) (D : P.underlying t = some (.slice e)) (m : P.underlying o = some (.int .i64)) (A : P.info? e = some i) (J : i.zero = some s) (l : i.size = k) (c : i.bytes = a) (v : s.cells = (enc z).toArray) (G : jP E x = .slice none 0 0) (I : jP E y = .int .i64 n) (u : EP a z n = some r) (h : ∀ W' q R', ST dd F w W' μ (R' ++ Y) → kk e enc k q r R' → K q W') : mL P E ⟨d, .call ⟨.builtin .append, #[x, y], #[t, o]⟩, ty, pos, af, g⟩ W K :=
 Hw [] b hk j D m A J l c v G I u h
end
end Go.Proofs.YtmlncblocfcmiaaGreat
namespace Go.Proofs.YtmlncblocfcmiaaGreat
open Go.RowKit
section
variable {P : Program} {n : Nat} {Q : pU} {E : Nat → Value} {W : World} {ops : Array Oper} {rest : List Oper}
variable {d j t : Nat} {want : Bool} {v : Value} {ins : Go.Op} {ty : TypeId} {pos : String} {af : Array Edge} {A : Value → Prop}
theorem V (b : lV P E ⟨some d, ins, ty, pos, af, none⟩ W v W) (h : LW P n ops Q rest (nL E d v) W) (a : d < n := by decide) : LW P n ops Q (⟨some d, ins, ty, pos, af, none⟩ :: rest) E W := Fz (.inl rfl) rfl a b h
theorem VE (h : mL P E ⟨some d, ins, ty, pos, af, none⟩ W fun v W' => LW P n ops Q rest (nL E d v) W') (a : d < n := by decide) : LW P n ops Q (⟨some d, ins, ty, pos, af, none⟩ :: rest) E W := Pc (.inl rfl) rfl a h
theorem VO (h : mL P E ⟨none, ins, ty, pos, af, none⟩ W fun _ W' => LW P n ops Q rest E W') : LW P n ops Q (⟨none, ins, ty, pos, af, none⟩ :: rest) E W := PV (.inl rfl) rfl h
theorem VQ (b : ∃ p, A p ∧ ∀ W, lV P E ⟨some d, ins, ty, pos, af, none⟩ W p W) (h : ∀ p, A p → LW P n ops Q rest (nL E d p) W) (a : d < n := by decide) : LW P n ops Q (⟨some d, ins, ty, pos, af, none⟩ :: rest) E W := Qq (.inl rfl) rfl a b h
theorem Vg (b : (ops[j]?).bind (·.dst) = some t) (a : E t = .bool want) (g : lV P E ⟨some d, ins, ty, pos, af, some (j, want)⟩ W v W) (h : LW P n ops Q rest (nL E d v) W) (i : t < n := by decide) (c : d < n := by decide) : LW P n ops Q (⟨some d, ins, ty, pos, af, some (j, want)⟩ :: rest) E W := Fz (.inr ⟨j, want, t, rfl, b, i, a⟩) rfl c g h
theorem Lb (b : (ops[j]?).bind (·.dst) = some t) (a : E t = .bool want) (h : mL P E ⟨some d, ins, ty, pos, af, some (j, want)⟩ W fun v W' => LW P n ops Q rest (nL E d v) W') (g : t < n := by decide) (c : d < n := by decide) : LW P n ops Q (⟨some d, ins, ty, pos, af, some (j, want)⟩ :: rest) E W := Pc (.inr ⟨j, want, t, rfl, b, g, a⟩) rfl c h
theorem Vn (b : (ops[j]?).bind (·.dst) = some t) (a : E t = .bool (!want)) (h : LW P n ops Q rest (nL E d undef) W) (g : t < n := by decide) (c : d < n := by decide) : LW P n ops Q (⟨some d, ins, ty, pos, af, some (j, want)⟩ :: rest) E W := PU rfl c rfl b g a h
theorem Vu (b : (ops[j]?).bind (·.dst) = some t) (a : E t = undef) (h : LW P n ops Q rest (nL E d undef) W) (g : t < n := by decide) (c : d < n := by decide) : LW P n ops Q (⟨some d, ins, ty, pos, af, some (j, want)⟩ :: rest) E W := Pw rfl c rfl b g a h
end
section
variable {P : Program} {n : Nat} {Q : pU} {E : Nat → Value} {W : World} {ops : Array Oper} {S : Array Bool → World → Prop} {fuel : Nat} {listed : Array Bool} {μ : km} {B : List (Nat × Obj)}
variable {d j t : Nat} {want : Bool} {v : Value} {ins : Go.Op} {ty : TypeId} {pos : String} {af : Array Edge} {A : Value → Prop}
theorem X (i : Nat) (b : ops[i]? = some ⟨some d, ins, ty, pos, af, none⟩) (a : S (listed.setIfInBounds i true) W) (g : ∀ {W}, lV P E ⟨some d, ins, ty, pos, af, none⟩ W v W) (h : PX P n ops Q S fuel (listed.setIfInBounds i true) (nL E d v) W) (hk : Aa ops listed i = true := by kernel_rfl) (hm : ∀ l w, S (l.setIfInBounds i true) w → S l w := by exact fun _ _ h => h) (c : d < n := by decide) : PX P n ops Q S (fuel + 1) listed E W := kX i b hk (.inl rfl) rfl c hm a (fun _ _ _ _ => g) h
theorem XH (i : Nat) (b : ops[i]? = some ⟨some d, ins, ty, pos, af, none⟩) (a : nt μ B W) (g : ∀ W, nt μ B W → lV P E ⟨some d, ins, ty, pos, af, none⟩ W v W) (h : PX P n ops Q (fun _ W => nt μ B W) fuel (listed.setIfInBounds i true) (nL E d v) W) (hk : Aa ops listed i = true := by kernel_rfl) (c : d < n := by decide) : PX P n ops Q (fun _ W => nt μ B W) (fuel + 1) listed E W := kX i b hk (.inl rfl) rfl c (fun _ _ h => h) a (fun _ W _ h => g W h) h
theorem XQ (i : Nat) (b : ops[i]? = some ⟨some d, ins, ty, pos, af, none⟩) (a : S (listed.setIfInBounds i true) W) (g : ∃ p, A p ∧ ∀ W, lV P E ⟨some d, ins, ty, pos, af, none⟩ W p W) (h : ∀ p, A p → PX P n ops Q S fuel (listed.setIfInBounds i true) (nL E d p) W) (hk : Aa ops listed i = true := by kernel_rfl) (hm : ∀ l w, S (l.setIfInBounds i true) w → S l w := by exact fun _ _ h => h) (c : d < n := by decide) : PX P n ops Q S (fuel + 1) listed E W := rH i b hk (.inl rfl) rfl c hm a g h
theorem XE (i : Nat) (a : ops[i]? = some ⟨some d, ins, ty, pos, af, none⟩) (h : mL P E ⟨some d, ins, ty, pos, af, none⟩ W fun v W' => S (listed.setIfInBounds i true) W' ∧ PX P n ops Q S fuel (listed.setIfInBounds i true) (nL E d v) W') (c : Region.ready .any ops listed = [i] := by kernel_rfl) (b : d < n := by decide) : PX P n ops Q S (fuel + 1) listed E W := OG i a c (.inl rfl) rfl b h
theorem XO (i : Nat) (a : ops[i]? = some ⟨none, ins, ty, pos, af, none⟩) (h : mL P E ⟨none, ins, ty, pos, af, none⟩ W fun _ W' => S (listed.setIfInBounds i true) W' ∧ PX P n ops Q S fuel (listed.setIfInBounds i true) E W') (b : Region.ready .any ops listed = [i] := by kernel_rfl) : PX P n ops Q S (fuel + 1) listed E W := PR i a b (.inl rfl) rfl h
theorem Xg (i : Nat) (c : ops[i]? = some ⟨some d, ins, ty, pos, af, some (j, want)⟩) (g : (ops[j]?).bind (·.dst) = some t) (a : E t = .bool want) (b : S (listed.setIfInBounds i true) W) (o : ∀ {W}, lV P E ⟨some d, ins, ty, pos, af, some (j, want)⟩ W v W) (h : PX P n ops Q S fuel (listed.setIfInBounds i true) (nL E d v) W) (hk : Aa ops listed i = true := by kernel_rfl) (hm : ∀ l w, S (l.setIfInBounds i true) w → S l w := by exact fun _ _ h => h) (m : t < n := by decide) (k : d < n := by decide) : PX P n ops Q S (fuel + 1) listed E W := kX i c hk (.inr ⟨j, want, t, rfl, g, m, a⟩) rfl k hm b (fun _ _ _ _ => o) h
theorem ri (i : Nat) (c : ops[i]? = some ⟨some d, ins, ty, pos, af, some (j, want)⟩) (g : (ops[j]?).bind (·.dst) = some t) (a : E t = .bool want) (b : nt μ B W) (m : ∀ W, nt μ B W → lV P E ⟨some d, ins, ty, pos, af, some (j, want)⟩ W v W) (h : PX P n ops Q (fun _ W => nt μ B W) fuel (listed.setIfInBounds i true) (nL E d v) W) (hk : Aa ops listed i = true := by kernel_rfl) (l : t < n := by decide) (k : d < n := by decide) : PX P n ops Q (fun _ W => nt μ B W) (fuel + 1) listed E W := kX i c hk (.inr ⟨j, want, t, rfl, g, l, a⟩) rfl k (fun _ _ h => h) b (fun _ W _ h => m W h) h
theorem xC (i : Nat) (b : ops[i]? = some ⟨some d, ins, ty, pos, af, some (j, want)⟩) (c : (ops[j]?).bind (·.dst) = some t) (a : E t = .bool want) (h : mL P E ⟨some d, ins, ty, pos, af, some (j, want)⟩ W fun v W' => S (listed.setIfInBounds i true) W' ∧ PX P n ops Q S fuel (listed.setIfInBounds i true) (nL E d v) W') (k : Region.ready .any ops listed = [i] := by kernel_rfl) (l : t < n := by decide) (g : d < n := by decide) : PX P n ops Q S (fuel + 1) listed E W := OG i b k (.inr ⟨j, want, t, rfl, c, l, a⟩) rfl g h
theorem Xn (i : Nat) (c : ops[i]? = some ⟨some d, ins, ty, pos, af, some (j, want)⟩) (g : (ops[j]?).bind (·.dst) = some t) (a : E t = .bool (!want)) (b : S (listed.setIfInBounds i true) W) (h : PX P n ops Q S fuel (listed.setIfInBounds i true) (nL E d undef) W) (hk : Aa ops listed i = true := by kernel_rfl) (hm : ∀ l w, S (l.setIfInBounds i true) w → S l w := by exact fun _ _ h => h) (m : t < n := by decide) (k : d < n := by decide) : PX P n ops Q S (fuel + 1) listed E W := PL i c hk rfl g m a rfl k hm b h
theorem Xu (i : Nat) (c : ops[i]? = some ⟨some d, ins, ty, pos, af, some (j, want)⟩) (g : (ops[j]?).bind (·.dst) = some t) (a : E t = undef) (b : S (listed.setIfInBounds i true) W) (h : PX P n ops Q S fuel (listed.setIfInBounds i true) (nL E d undef) W) (hk : Aa ops listed i = true := by kernel_rfl) (hm : ∀ l w, S (l.setIfInBounds i true) w → S l w := by exact fun _ _ h => h) (m : t < n := by decide) (k : d < n := by decide) : PX P n ops Q S (fuel + 1) listed E W := PE i c hk rfl g m a rfl k hm b h
end
end Go.Proofs.YtmlncblocfcmiaaGreat
namespace Go.Proofs.YtmlncblocfcmiaaGreat
open Go.RowKit
section
variable {α β γ : Type}
inductive oU (Q : α → β → Prop) : List α → List β → Prop
 | nil : oU Q [] []
 | cons {a : α} {b : β} {l : List α} {m : List β} : Q a b → oU Q l m → oU Q (a :: l) (b :: m)
namespace oU
variable {Q Q' : α → β → Prop}
theorem length {l : List α} {m : List β} (h : oU Q l m) : l.length = m.length := by
 induction h with
 | nil => rfl
 | cons _ _ ih => simp [ih]
theorem imp {l : List α} {m : List β} (h : oU Q l m) (c : ∀ a b, Q a b → Q' a b) : oU Q' l m := by
 induction h with
 | nil => exact .nil
 | cons h1 _ ih => exact .cons (c _ _ h1) ih
theorem get {l : List α} {m : List β} (h : oU Q l m) : ∀ {i : Nat} {b : β}, m[i]? = some b → ∃ a, l[i]? = some a ∧ Q a b := by
 induction h with
 | nil => intro i b c; simp at c
 | cons h1 _ ih =>
  intro i b c
  cases i with
  | zero => simp at c; subst c; exact ⟨_, rfl, h1⟩
  | succ i => simpa using ih (by simpa using c)
theorem append {l a : List α} {m b : List β} (h : oU Q l m) (c : oU Q a b) : oU Q (l ++ a) (m ++ b) := by
 induction h with
 | nil => exact c
 | cons h1 _ ih => exact .cons h1 ih
theorem set {l : List α} {m : List β} (h : oU Q l m) {a : α} {b : β} (d : Q a b) : ∀ i : Nat, oU Q (l.set i a) (m.set i b) := by
 induction h with
 | nil => intro i; exact .nil
 | cons h1 c ih =>
  intro i
  cases i with
  | zero => exact .cons d c
  | succ i => exact .cons h1 (ih i)
theorem take {l : List α} {m : List β} (h : oU Q l m) : ∀ i : Nat, oU Q (l.take i) (m.take i) := by
 induction h with
 | nil => intro i; simp; exact .nil
 | cons h1 _ ih =>
  intro i
  cases i with
  | zero => exact .nil
  | succ i => exact .cons h1 (ih i)
theorem drop {l : List α} {m : List β} (h : oU Q l m) : ∀ i : Nat, oU Q (l.drop i) (m.drop i) := by
 induction h with
 | nil => intro i; simp; exact .nil
 | cons h1 a ih =>
  intro i
  cases i with
  | zero => exact .cons h1 a
  | succ i => exact ih i
end oU
theorem Ap {P : Nat → β → α → Prop} : ∀ {m : List β} (o : Nat), (∀ (i : Nat) (b : β), m[i]? = some b → ∃ a, P (o + i) b a) → ∃ l : List α, l.length = m.length ∧ ∀ (i : Nat) (b : β), m[i]? = some b → ∃ a, l[i]? = some a ∧ P (o + i) b a
 | [], _, _ => ⟨[], rfl, fun i b h => by simp at h⟩
 | b :: m, o, h => by
  obtain ⟨a, ha⟩ := h 0 b rfl
  obtain ⟨l, h1, g⟩ := Ap (m := m) (o + 1) (fun i b j => by
   obtain ⟨a, ha⟩ := h (i + 1) b (by simpa using j)
   exact ⟨a, by rw [show o + 1 + i = o + (i + 1) by omega]; exact ha⟩)
  refine ⟨a :: l, by simp [h1], fun i c d => ?_⟩
  cases i with
  | zero => simp at d; subst d; exact ⟨a, rfl, ha⟩
  | succ i =>
   obtain ⟨x, k, hp⟩ := g i c (by simpa using d)
   exact ⟨x, by simpa using k, by rw [show o + (i + 1) = o + 1 + i by omega]; exact hp⟩
theorem oU.Kz {Q : α → β → Prop} : ∀ {l : List α} {m : List β}, l.length = m.length → (∀ (i : Nat) (a : α) (b : β), l[i]? = some a → m[i]? = some b → Q a b) → oU Q l m
 | [], [], _, _ => .nil
 | [], _ :: _, h, _ => by cases h
 | _ :: _, [], h, _ => by cases h
 | a :: l, b :: m, h, c => .cons (c 0 a b rfl rfl) (oU.Kz (by simpa using h) (fun i x y d g => c (i + 1) x y (by simpa using d) (by simpa using g)))
end
structure Deep {β : Type} (R : pj β) (k : Nat) : Prop where
 mono : E0 R
 len : ∀ {μ ys x}, R μ ys x → ys.length = k
 one : ∀ {μ ys x}, R μ ys x → ∀ u ∈ ys, u.oneCell' = true
abbrev vE (k : Nat) := {ys : List Value // ys.length = k ∧ ∀ u ∈ ys, u.oneCell' = true}
def uj {k : Nat} (c : vE k) : List Value := c.1
theorem yF {k : Nat} (x : vE k) : (uj x).length = k := x.2.1
theorem Mx {k : Nat} (x : vE k) : ∀ u ∈ uj x, u.oneCell' = true := x.2.2
theorem Sl.zQ {α : Type} {R : pj α} {k : Nat} {μ : km} {v : Value} {l : List α} (h : Sl R k μ v l) : v.oneCell' = true := by
 obtain ⟨A, c, rfl, _⟩ := h; rfl
section
variable {β : Type} {Rl : pj β} {k : Nat} {μ μ' : km} {v : Value} {l : List β}
def Deep.cell (a : Deep Rl k) {ys : List Value} {x : β} (h : Rl μ ys x) : vE k := ⟨ys, a.len h, a.one h⟩
theorem Sl.raw (z : Deep Rl k) (h : Sl Rl k μ v l) : ∃ cl : List (vE k), Sl (Pl uj) k μ v cl ∧ oU (fun c x => Rl μ c.1 x) cl l := by
 obtain ⟨A, c, rfl, h1, s, u⟩ := h
 cases l with
 | nil => exact ⟨[], ⟨A, c, rfl, h1, s, fun h => absurd h (by simp)⟩, .nil⟩
 | cons x0 l =>
  obtain ⟨b, off, cs, T, fr, rfl, D, w⟩ := u (by simp)
  obtain ⟨cl, o, r⟩ := Ap (P := fun i x (c : vE k) => Rl μ c.1 x ∧ ∀ j y, c.1[j]? = some y → cs[off + i * k + j]? = some y) (m := x0 :: l) 0 (fun i x q => by
   obtain ⟨ys, _, d, g⟩ := w i x q
   exact ⟨z.cell d, d, by rw [fj]; exact g⟩)
  refine ⟨cl, ⟨_, c, by rw [o], by omega, s, fun _ => ⟨b, off, cs, T, fr, rfl, D, fun i c n => ?_⟩⟩, oU.Kz o (fun i c x n q => ?_)⟩
  ·have F : i < (x0 :: l).length := by rw [← o]; exact (bG.1 n).1
   obtain ⟨t, a, _, g⟩ := r i _ (cW F)
   rw [n] at a; cases a
   exact ⟨c.1, c.2.1, rfl, by rw [fj] at g; exact g⟩
  ·obtain ⟨t, a, d, _⟩ := r i x q
   rw [n] at a; cases a
   exact d
theorem Sl.Ky {cl : List (vE k)} (h : Sl (Pl uj) k μ v cl) (t : kf μ μ') (ha : oU (fun c x => Rl μ' c.1 x) cl l) : Sl Rl k μ' v l := by
 obtain ⟨A, c, rfl, h1, m, n⟩ := h
 have a := ha.length
 refine ⟨A, c, by rw [a], by omega, m, fun w => ?_⟩
 obtain ⟨b, off, cs, T, fr, rfl, q, o⟩ := n (by omega)
 refine ⟨b, off, cs, T, fr, rfl, t _ _ q, fun i x u => ?_⟩
 obtain ⟨c, r, s⟩ := ha.get u
 obtain ⟨ys, d, g, j⟩ := o i c r
 cases g
 exact ⟨uj c, d, s, j⟩
def Bn (Rl : pj β) (k : Nat) (μ : km) (W : World) (v : Value) (l : List β) : Prop := ∃ cl : List (vE k), Sl (Pl uj) k (hp W) v cl ∧ oU (fun c x => Rl μ c.1 x) cl l
theorem Bn.sl (b : Deep Rl k) {W : World} (h : Sl Rl k μ v l) (c : kf μ (hp W)) : Bn Rl k μ W v l := by
 obtain ⟨cl, h1, a⟩ := h.raw b
 exact ⟨cl, h1.mono (Pl.mono _) c, a⟩
theorem Sl.Mq {b m : Nat} {cl : List (vE k)} {cs : Array Value} {e : TypeId} (hm : cl.length = m) (a : m ≤ maxLen) (d : cs.toList = (cl.map uj).flatten) (c : μ b = some (.cells cs e (0, 0))) : Sl (Pl uj) k μ (.slice (some ⟨b, 0, none⟩) m m) cl := by
 subst hm
 refine ⟨_, _, rfl, aV _, a, fun _ => ⟨b, 0, _, _, _, rfl, c, fun i x g => ⟨uj x, yF x, rfl, fun j y h => ?_⟩⟩⟩
 have := uX yF cl i x g j y h
 rw [← d] at this
 simpa using this
inductive Bv (Rl : pj β) (k : Nat) (μ : km) : List Value → List β → Prop
 | nil : Bv Rl k μ [] []
 | cons {ys zs : List Value} {x : β} {l : List β} : Rl μ ys x → Bv Rl k μ zs l → Bv Rl k μ (ys ++ zs) (x :: l)
theorem Bv.cells (b : Deep Rl k) {ys : List Value} (h : Bv Rl k μ ys l) : ∃ cl : List (vE k), (cl.map uj).flatten = ys ∧ oU (fun c x => Rl μ c.1 x) cl l := by
 induction h with
 | nil => exact ⟨[], rfl, .nil⟩
 | cons h1 _ ih =>
  obtain ⟨cl, e, a⟩ := ih
  exact ⟨b.cell h1 :: cl, by rw [bH, bK, e]; rfl, .cons h1 a⟩
theorem Bn.lit (d : Deep Rl k) {W : World} {b m : Nat} {ys : List Value} {e : TypeId} (h : Bv Rl k μ ys l) (hm : l.length = m) (g : m ≤ maxLen) (i : W.heap[b]? = some (.cells ys.toArray e (0, 0))) : Bn Rl k μ W (.slice (some ⟨b, 0, none⟩) m m) l := by
 obtain ⟨cl, c, a⟩ := h.cells d
 exact ⟨cl, Sl.Mq (by rw [a.length]; exact hm) g c.symm i, a⟩
theorem Sl.imp {R R' : pj β} (h : Sl R k μ v l) (q : ∀ ys x, R μ ys x → R' μ ys x) : Sl R' k μ v l := by
 obtain ⟨A, c, rfl, h1, a, d⟩ := h
 refine ⟨A, c, rfl, h1, a, fun r => ?_⟩
 obtain ⟨b, off, cs, T, fr, rfl, o, g⟩ := d r
 exact ⟨b, off, cs, T, fr, rfl, o, fun i x s => let ⟨ys, j, m, n⟩ := g i x s; ⟨ys, j, q _ _ m, n⟩⟩
theorem CL : ∀ (l : List Nat) (n : Nat), n ∈ l → n ≤ l.foldr max 0
 | [], n, h => by cases h
 | a :: l, n, h => by
  rcases aQ.1 h with rfl | h
  ·exact Nat.le_max_left _ _
  ·exact dB (CL l n h) (Nat.le_max_right _ _)
theorem Sl.Qa {R : pj β} {a : Nat → pj β} (h : Sl R k μ v l) (z : ∀ ys x, R μ ys x → ∃ n, a n μ ys x) (up : ∀ n m ys x, n ≤ m → a n μ ys x → a m μ ys x) : ∃ n, Sl (a n) k μ v l := by
 obtain ⟨A, c, rfl, h1, r, u⟩ := h
 by_cases s : 0 < l.length
 ·obtain ⟨b, off, cs, T, fr, rfl, D, w⟩ := u s
  obtain ⟨G, I, t⟩ := Ap (P := fun i x (p : Nat × List Value) => p.2.length = k ∧ a p.1 μ p.2 x ∧ ∀ j y, p.2[j]? = some y → cs[off + i * k + j]? = some y) (m := l) 0 (fun i x q => by
   obtain ⟨ys, g, o, d⟩ := w i x q
   obtain ⟨n, F⟩ := z _ _ o
   exact ⟨(n, ys), g, F, by rw [fj]; exact d⟩)
  refine ⟨(G.map (·.1)).foldr max 0, _, c, rfl, h1, r, fun _ => ⟨b, off, cs, T, fr, rfl, D, fun i x q => ?_⟩⟩
  obtain ⟨p, hp, g, o, d⟩ := t i x q
  exact ⟨p.2, g, up _ _ _ _ (CL _ _ (bB.2 ⟨p, dt hp, rfl⟩)) o, by rw [fj] at d; exact d⟩
 ·exact ⟨0, A, c, rfl, h1, r, fun h => absurd h s⟩
def kR (e : TypeId) (Rl : pj β) (k : Nat) (μ : km) (v : Value) (l : List β) (B : List (Nat × Obj)) : Prop := ∃ cl : List (vE k), kk e uj k v cl B ∧ oU (fun c x => Rl μ c.1 x) cl l
variable {e : TypeId} {B : List (Nat × Obj)}
theorem kR.mono (b : Deep Rl k) (h : kR e Rl k μ v l B) (c : kf μ μ') : kR e Rl k μ' v l B := by
 obtain ⟨cl, h1, a⟩ := h
 exact ⟨cl, h1, a.imp (fun _ _ h => b.mono _ _ _ _ c h)⟩
theorem kR.nil (e : TypeId) (Rl : pj β) (k : Nat) (μ : km) : kR e Rl k μ (.slice none 0 0) [] [] := ⟨[], kk.nil _ _ _, .nil⟩
theorem kR.lit (d : Deep Rl k) {b m : Nat} {ys : List Value} (h : Bv Rl k μ ys l) (hm : l.length = m) (g : m ≤ maxLen) (i : ys.length = m * k) : kR e Rl k μ (.slice (some ⟨b, 0, none⟩) m m) l [(b, .cells ys.toArray e (0, 0))] := by
 obtain ⟨cl, c, a⟩ := h.cells d
 exact ⟨cl, kk.lit (by rw [a.length]; exact hm) g c.symm (by simpa using i), a⟩
theorem kR.form (h : kR e Rl k μ v l B) : ∃ A c, v = .slice A l.length c := by
 obtain ⟨cl, h1, a⟩ := h
 rw [← a.length]; exact h1.form
theorem kR.len (h : kR e Rl k μ v l B) : l.length ≤ 9223372036854775807 := by
 obtain ⟨cl, h1, a⟩ := h
 rw [← a.length]; exact h1.len
theorem kR.nd (h : kR e Rl k μ v l B) : (B.map (·.1)).Nodup := let ⟨_, h1, _⟩ := h; h1.nd
theorem kR.isNil {n c : Nat} (h : kR e Rl k μ (.slice none n c) l B) : l = [] := by
 obtain ⟨cl, h1, a⟩ := h
 have := a.length
 rw [h1.isNil] at this
 exact aU this.symm
theorem kR.sl (h : kR e Rl k μ v l B) (c : Deep Rl k) (d : kf μ μ') (hm : ∀ b o, (b, o) ∈ B → μ' b = some o) : Sl Rl k μ' v l := by
 obtain ⟨cl, h1, a⟩ := h
 exact Sl.Ky (h1.sl yF hm) (kf.refl _) (a.imp (fun _ _ h => c.mono _ _ _ _ d h))
end
section
variable {β : Type} {Rl : pj β} {k : Nat} {μ : km} {v : Value} {l : List β} {e : TypeId} {B : List (Nat × Obj)}
variable {dd : Bool} {F : Nat → Prop} {w W : World} {L : List (Nat × Obj)}
theorem kR.IS (h : kR e Rl k μ v l B) (a : ST dd kQ w W μ L) (b : ∀ p, p ∈ B → p ∈ L) : Fr w.heap.size v := let ⟨_, h1, _⟩ := h; h1.IS a b
theorem ST.vS {Y : List (Nat × Obj)} (d : Deep Rl k) (a : ST dd F w W μ (B ++ Y)) (h : kR e Rl k μ v l B) : ∃ μ', ST dd F w W μ' Y ∧ kf μ μ' ∧ Lo F w μ μ' ∧ Sl Rl k μ' v l := by
 obtain ⟨cl, h1, c⟩ := h
 obtain ⟨μ', b, a2, a4, a3⟩ := ST.Cl a h1 yF
 exact ⟨μ', b, a2, a4, Sl.Ky a3 (kf.refl _) (c.imp (fun _ _ h => d.mono _ _ _ _ a2 h))⟩
variable {P : Program} {E : Nat → Value} {d : Option Nat} {ty : TypeId} {pos : String} {af : Array Edge} {g : Option (Nat × Bool)}
theorem mo {t e' : TypeId} {x a : Operand} {u : IntKind} {i : Int} {x0 : β} {A : List Value → Prop} (o : ∀ {ys}, Rl μ ys x0 → A ys) (r : P.underlying t = some (.slice e')) (he : ∀ w, (sizeOf e').run P w = .ok k w) (s : jP E x = v) (m : jP E a = .int u i) (q : Sl Rl k μ v l) (b : 0 ≤ i) (n : l[i.toNat]? = some x0) :
  ∃ p, (∃ ys, A ys ∧ At μ p ys) ∧ ∀ W, lV P E ⟨d, .indexAddr t x a, ty, pos, af, g⟩ W p W := by
 obtain ⟨p, ys, _, c, h, j⟩ := FR (d := d) (ty := ty) (pos := pos) (af := af) (g := g) r he s m q b n
 exact ⟨p, ⟨ys, o c, h⟩, j⟩
theorem wR {x : Operand} {t e' : TypeId} (a : P.underlying t = some (.slice e')) (b : jP E x = v) (h : kR e Rl k μ v l B) : lV P E ⟨d, .call ⟨.builtin .len, #[x], #[t]⟩, ty, pos, af, g⟩ W (.int .i64 l.length) W := by
 obtain ⟨A, c, rfl⟩ := h.form
 exact xU a b
theorem lE {t e' : TypeId} {x j : Operand} {D : IntKind} {i : Int} {x0 : β} {A : List Value → Prop} (s : ∀ {ys}, Rl μ ys x0 → A ys) (y : P.underlying t = some (.slice e')) (he : ∀ w, (sizeOf e').run P w = .ok k w) (z : jP E x = v) (q : jP E j = .int D i) (h : kR e Rl k μ v l B) (m : 0 ≤ i) (r : l[i.toNat]? = some x0) :
  ∃ p, (∃ ys, A ys ∧ At (Az B) p ys ∧ zK B k p i.toNat) ∧ ∀ W, lV P E ⟨d, .indexAddr t x j, ty, pos, af, g⟩ W p W := by
 obtain ⟨cl, h1, n⟩ := h
 obtain ⟨c, b, u⟩ := n.get r
 obtain ⟨p, a, o⟩ := nz (d := d) (ty := ty) (pos := pos) (af := af) (g := g) y he z q h1 m b
 exact ⟨p, ⟨c.1, s u, a.at h1 yF b, a⟩, o⟩
theorem Mr {α d : Type} {a : Nat} {l m r : List α} {b c : List d} (h : mG a l m = some r) (h1 : b.length = l.length) (g : c.length = m.length) : mG a b c = some (b ++ c) ∧ r = l ++ m := by
 unfold mG at h ⊢
 rw [h1, g]
 split at h
 ·rename_i i; cases h; rw [aZ i]; exact ⟨rfl, rfl⟩
 ·cases h
theorem tZ {K : Value → World → Prop} {t : TypeId} {a : Nat} {z vs : Value} {m r : List β} {Y : List (Nat × Obj)} {x y : Operand} {i : TypeInfo} (Z : Deep Rl k) (c : ST dd F w W μ (B ++ Y)) (o : 0 < k) (O : P.underlying t = some (.slice e)) (L : P.info? e = some i) (T : i.zero = some z) (s : z.cells.size = k) (q : i.size = k) (n : i.bytes = a) (Q : jP E x = v) (R : jP E y = vs) (I : kR e Rl k μ v l B) (M : Bn Rl k μ W vs m) (J : mG a l m = some r) (h : ∀ W' b R', ST dd F w W' μ (R' ++ Y) → kR e Rl k μ b r R' → K b W') : mL P E ⟨d, .call ⟨.builtin .append, #[x, y], #[t, t]⟩, ty, pos, af, g⟩ W K := by
 obtain ⟨cl, h1, u⟩ := I
 obtain ⟨U, G, A⟩ := M
 obtain ⟨j, rfl⟩ := Mr J u.length A.length
 exact oq c yF o Mx O L T s q n Q R h1 G j (fun W' b R' D a2 => h W' b R' D ⟨_, a2, u.append A⟩)
theorem pW {K : Value → World → Prop} {Y : List (Nat × Obj)} {t : TypeId} {x y : Operand} {p : Value} {i : Nat} {x0 x1 : β} {ys : List Value} (n : Deep Rl k) (a : ST dd F w W μ (B ++ Y)) (h : kR e Rl k μ v l B) (u : jP E x = p) (z : jP E y = .agg ys.toArray) (j : Rl μ ys x1) (hp : zK B k p i) (s : l[i]? = some x0) (q : ∀ w, (sizeOf t).run P w = .ok k w) (o : ∀ W' R', ST dd F w W' μ (R' ++ Y) → kR e Rl k μ v (l.set i x1) R' → K undef W') : mL P E ⟨d, .store t x y, ty, pos, af, g⟩ W K := by
 obtain ⟨cl, h1, b⟩ := h
 obtain ⟨c, r, _⟩ := b.get s
 exact xq (x1 := n.cell j) a h1 yF Mx u z rfl hp r q (fun W' R' m a2 => o W' R' m ⟨_, a2, b.set j i⟩)
end
end Go.Proofs.YtmlncblocfcmiaaGreat
namespace Go.Proofs.YtmlncblocfcmiaaGreat
open Go.RowKit
def lM (dd : Bool) (P : Program) (f : FuncId) (args : List Value) (w : World) (μ0 : km) (L0 : List (Nat × Obj)) (K : Value → List (Nat × Obj) → km → Prop) : Prop :=
 Calls P f args.toArray w fun e a => ∃ v L1 μ1, e = .returned v ∧ sI dd L0 L1 w a ∧ kf μ0 μ1 ∧ Lo (keys L0) w μ0 μ1 ∧ kf μ1 (ta a L1) ∧ K v L1 μ1
theorem lM.lD {dd : Bool} {P : Program} {f : FuncId} {args : List Value} {w : World} {μ0 : km} {L0 : List (Nat × Obj)} {K : Value → List (Nat × Obj) → km → Prop} (h : lM true P f args w μ0 L0 K) : lM dd P f args w μ0 L0 K :=
 dC h fun _ _ ⟨v, L1, μ1, h1, a, b⟩ => ⟨v, L1, μ1, h1, a.lD, b⟩
section
variable {dd : Bool} {F : Nat → Prop} {w W W' : World} {μ μ1 : km} {L L0 L1 L2 : List (Nat × Obj)}
theorem ST.P3 (h : ST dd F w W μ (L0 ++ L)) (g : sI dd L0 L1 W W') (i : Lo (keys L0) W μ μ1) (d : kf μ1 (ta W' L1)) : ST dd F w W' μ1 (L1 ++ L) := by
 have h1 := h.back g
 refine ⟨h1.os, h1.tape, h1.output, h1.drawn, h1.size, h1.mh, fun b o hm => ?_, fun b o a => ?_, h1.nd⟩
 ·have := d b o hm
  unfold ta at this
  split at this
  ·cases this
  ·exact this
 ·obtain ⟨j, l, k⟩ := h1.box b o a
  refine ⟨j, ?_, k⟩
  rcases aR.1 a with a | a
  ·cases hm : μ1 b with
   | none => rfl
   | some x =>
    have := d b x hm
    unfold ta at this
    rw [aZ ⟨o, a⟩] at this
    cases this
  ·have c := h.box b o (dR _ a)
   rw [i b (ny c.1) (Dn h.nd a)]
   exact c.2.1
variable {P : Program} {E : Nat → Value} {d : Option Nat} {ty : TypeId} {pos : String} {af : Array Edge} {g : Option (Nat × Bool)}
theorem Ig {K : Value → World → Prop} {K' : Value → List (Nat × Obj) → km → Prop} {f : FuncId} {fv : Operand} {ax : Array Operand} {ats : Array TypeId} {caps : Array Value} {args : List Value} (L0 L2 : List (Nat × Obj)) (a : ST dd F w W μ L) (c : L.Perm (L0 ++ L2)) (u : jP E fv = .func (.func f) #[] caps) (he : ∀ args w, (callFunc f args).run P w = .ok (.enter f args) w) (ha : ax.map (jP E) ++ (#[] : Array Value) = args.toArray) (t : Cm L0 W → (L0.map (·.1)).Nodup → kf μ (ta W L0) → (∀ b o, (b, o) ∈ L2 → ta W L0 b = some o) → lM dd P f (args ++ caps.toList) W μ L0 K') (h : ∀ W' v μ' L1, ST dd F w W' μ' (L1 ++ L2) → kf μ μ' → Lo F w μ μ' → K' v L1 μ' → K v W') : mL P E ⟨d, .call ⟨.value fv, ax, ats⟩, ty, pos, af, g⟩ W K := by
 have i : ax.map (jP E) = args.toArray := by simpa using ha
 refine Dm (args := (args ++ caps.toList).toArray) u he (by rw [i]; simp) (dC (t (a.held c) (a.OE c) (a.Om c) (a.IK c)) (fun _ W' ⟨v, L1, μ1, h1, k, l, j, m, n⟩ => ⟨v, h1, h W' v μ1 L1 ((a.perm c).P3 k j m) l (fun b s r => j b (dZ s a.size) (fun ⟨o, x⟩ => by
  rcases ((a.perm c).box b o (cF _ x)).2.2 with q | q
  ·omega
  ·exact r q)) n⟩))
end
end Go.Proofs.YtmlncblocfcmiaaGreat
namespace Go.Proofs.YtmlncblocfcmiaaGreat
open Go.RowKit
section
variable {P : Program} {E : Nat → Value} {W : World} {d : Option Nat} {ty : TypeId} {pos : String} {af : Array Edge} {g : Option (Nat × Bool)}
 {dd : Bool} {F : Nat → Prop} {w : World} {μ : km} {L : List (Nat × Obj)}
def CY {α : Type} (a : Nat) (z : α) (n : Int) : Option (List α) := if 0 ≤ n ∧ (a : Int) * n ≤ 140737488355328 ∧ n ≤ (maxLen : Int) then some (List.replicate n.toNat z) else none
theorem FJ {α : Type} {enc : α → List Value} {k : Nat} (hk : ∀ x, (enc x).length = k) (a : 0 < k) (z : α) (n : Nat) : (madeCells (enc z).toArray (n * k)).toList = ((List.replicate n z).map enc).flatten := by
 apply List.ext_getElem
 ·rw [pt hk, dl, size_madeCells]; simp
 ·intro i h1 g
  rw [dl, size_madeCells] at h1
  have h : i / k < n := by rw [gp a]; exact h1
  have c : i % k < (enc z).length := by rw [hk]; exact Nat.mod_lt _ a
  have b := uX hk (List.replicate n z) (i / k) z (by rw [List.getElem?_replicate, aZ h]) (i % k) _ (cW c)
  rw [show i / k * k + i % k = i by rw [Nat.mul_comm]; exact Nat.div_add_mod i k] at b
  rw [cW g] at b
  have d := Option.some.inj b
  rw [d]
  simp only [madeCells, Array.getElem_toList, Array.getElem_map, Array.getElem_range, dK, hk]
  rw [getElem!_pos _ _ (by simpa using c)]
  simp
theorem DZ {K : Value → World → Prop} {α : Type} {e t : TypeId} {enc : α → List Value} {k a : Nat} {b : Value} {n : Int} {j : IntKind} {z : α} {r : List α} {x y : Operand} {i : TypeInfo} (l : ST dd F w W μ L) (hk : ∀ x, (enc x).length = k) (q : 0 < k) (M : P.underlying t = some (.slice e)) (I : P.info? e = some i) (R : i.zero = some b) (s : i.size = k) (o : i.bytes = a) (G : b.cells = (enc z).toArray) (O : jP E x = .int j n) (Q : jP E y = .int j n) (c : CY a z n = some r) (h : ∀ W' u R', ST dd F w W' μ (R' ++ L) → kk e enc k u r R' → K u W') : mL P E ⟨d, .makeSlice t x y, ty, pos, af, g⟩ W K := by
 unfold CY at c
 split at c
 case isFalse => cases c
 rename_i m
 cases c
 obtain ⟨v, h1, A⟩ := m
 subst s; subst o
 have D : n.toNat ≤ maxLen := by omega
 have J := run_make (P := P) W t e i b M I R j j n n v (Int.le_refl _) (by omega) (by simp only [maxLen] at A; omega)
 refine .inl ⟨.slice (some ⟨W.heap.size, 0, none⟩) n.toNat n.toNat, W.alloc (.cells (madeCells b.cells (n.toNat * i.size)) e), ?_, h _ _ [(W.heap.size, .cells (madeCells b.cells (n.toNat * i.size)) e)] (l.alloc _) ?_⟩
 ·show (do pure (.value (← Instr.makeSlice t (jP E x) (jP E y))) : Sem Next).run P W = _
  rw [O, Q]
  simp only [cE, J, bN, dq]
 ·exact kk.lit (by rw [gr]) D (by rw [G]; exact FJ hk q z _) (by rw [size_madeCells])
end
theorem qC.zQ {κ γ : Type} {kenc : κ → Value} {Q : Value → γ → List (Nat × Obj) → Prop} {μ : km} {v : Value} {l : List (κ × γ)} (h : qC kenc Q μ v l) : v.oneCell' = true := by
 obtain ⟨a, R, h, _⟩ := h
 obtain ⟨m, rfl⟩ := h.form
 rfl
theorem uL.zQ {κ β : Type} {kenc : κ → Value} {vf : β → Value} {μ : km} {v : Value} {l : List (κ × β)} (h : uL kenc vf μ v l) : v.oneCell' = true := by
 obtain ⟨m, rfl⟩ := h.form
 rfl
end Go.Proofs.YtmlncblocfcmiaaGreat
