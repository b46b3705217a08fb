/- a part of a proof of ThriftHides -/
import Derived.WalkKit
import Derived.WalkLawsBesides
import Derived.Maps.AppendAt
import Derived.OrdersHeld
import Derived.Laws.IdiomStrings
import Derived.Maps.RangeRun
import Derived.Lib.BytesEntry
import Derived.Lib.Bytealg
import Derived.Laws.Externs
import Derived.ChangeKeysEq
import Derived.Deep.AppendSrc
import Derived.Laws.MakeOwn
set_option linter.all false
namespace Go.Proofs.YtklbhegeiijbjaaGreat
open Go.RowKit
def aA := @Option.bind_some
def aB := @Bool.false_eq_true
def aD := @List.length_append
def aF := @Int.natCast_nonneg
def aI := @List.drop_length
def aN := @if_false
def aO := @List.length_cons
def aP := @Nat.exists_eq_succ_of_ne_zero
def aQ := @List.mem_append
def aR := @List.append_assoc
def aS := @List.mem_cons
def aU := @if_true
def aW := @List.eq_nil_of_length_eq_zero
def aX := @run_underlying
def aY := @if_neg
def aZ := @if_pos
def bA := @Nat.le_refl
def bB := @congrArg
def bE := @Bool.and_eq_true
def bF := @Nat.lt_succ_self
def bH := @beq_self_eq_true
def bI := @List.Perm.refl
def bJ := @List.mem_map
def bK := @List.nil_append
def bL := @List.cons.injEq
def bM := @List.map_cons
def bN := @List.getElem?_eq_some_iff
def bP := @List.mem_singleton
def bR := @decide_eq_true_eq
def bT := @List.append_nil
def bU := @List.mem_filter
def bV := @List.flatten_cons
def bW := @Result.andThen_ok
def bX := @Bool.eq_iff_iff
def bY := @Bool.not_true
def bZ := @List.length_nil
def cA := @List.nodup_append
def cC := @decide_true
def cE := @List.forall_mem_cons
def cF := @List.Perm.append_left
def cI := @decide_false
def cJ := @List.cons_append
def cK := @List.mem_append_left
def cM := @List.map_append
def cN := @Sem.run_bind
def cQ := @List.length_filter_le
def cR := @Nat.mul_le_mul_right
def cT := @List.pairwise_cons
def cU := @Nat.add_mul
def cX := @List.length_take
def cY := @List.flatten_append
def cZ := @List.take_of_length_le
def dE := @List.length_map
def dF := @List.getElem?_eq_getElem
def dG := @List.pairwise_append
def dI := @Bool.not_false
def dJ := @Array.length_toList
def dM := @List.flatten_nil
def dN := @List.filter_cons
def dO := @Nat.le_trans
def dP := @Sem.run_pure
def dQ := @List.mem_of_getElem?
def dT := @List.nodup_cons
def dU := @Nat.min_eq_left
def dV := @Array.getElem?_eq_some_iff
def dW := @Calls.mono
def dY := @List.not_mem_nil
def dZ := @List.mem_append_right
def eA := @Array.getElem?_toList
def eB := @List.eq_nil_or_concat
def eE := @Addr.add_lit
def eF := @List.size_toArray
def eG := @Int.toNat_natCast
def eJ := @List.getElem?_drop
def eO := @Option.map_some
def eS := @Array.getElem?_modify
def eT := @List.getElem?_take_of_lt
def eU := @Bool.true_and
def eV := @Bool.eq_false_or_eq_true
def eW := @and_true
def eZ := @Nat.lt_of_lt_of_le
def fA := @List.length_eq_zero_iff
def fB := @List.any_eq_true
def fC := @List.findIdx?_eq_some_iff_getElem
def fF := @DataW.trod_struct
def fG := @List.find?_cons
def fI := @List.concat_eq_append
def fJ := @Nat.eq_zero_or_pos
def fK := @List.length_zipIdx
def fL := @Nat.add_assoc
def fO := @Nat.zero_le
def fP := @List.ext_getElem?
def fQ := @Option.some.inj
def fR := @Array.getD_eq_getD_getElem?
def fS := @List.map_map
def fV := @Bool.not_not
def gD := @List.perm_middle
def gE := @List.all_eq_true
def gF := @Bool.not_eq_true
def gG := @List.getElem?_append_right
def gH := @List.findIdx?_cons
def gI := @List.find?_eq_none
def gJ := @List.perm_append_comm
def gL := @List.mem_of_find?_eq_some
def gM := @Classical.byContradiction
def gN := @List.getElem?_set
def gO := @List.getElem?_map
def gP := @List.mem_cons_of_mem
def gQ := @Nat.zero_add
def gY := @Bool.not_eq_true'
def ie := @List.sum_cons
def ig := @ByteArray.toList_eq
def ij := @List.take_append
def ir := @List.getElem?_take
def iu := @List.map_nil
def iw := @Bool.or_eq_true
def iC := @List.singleton_append
def iD := @List.getElem?_eq_none
def iE := @List.take_append_drop
def iF := @Function.comp_def
def iG := @List.pairwise_map
def iH := @Option.some.injEq
def iI := @List.perm_append_comm_assoc
def iJ := @of_decide_eq_true
def iK := @List.getElem?_append
def iL := @List.take_take
def iO := @List.perm_append_singleton
def iP := @List.mem_of_mem_take
def iU := @List.getElem?_append_left
def iV := @List.findIdx?_eq_none_iff
def iX := @List.Perm.nodup_iff
def iY := @or_false
def jb := @Oper.upon_value
def jc := @Oper.upon_enter
def jd := @List.foldl_cons
def jf := @eq_iff_iff
def jg := @cell_of_row
def jh := @List.getElem?_cons_zero
def ji := @List.pairwise_mergeSort
def jj := @List.pairwise_singleton
def jk := @Oper.upon_skip
def jl := @List.findIdx?_map
def jm := @List.Perm.append_right
def ju := @List.flatMap_cons
def jv := @Bool.false_and
def jw := @List.any_eq_false
def jx := @bne_self_eq_false
def jy := @Nat.div_lt_iff_lt_mul
def jz := @List.length_replicate
def jA := @List.length_drop
def jB := @Option.getD_some
def jD := @List.eq_nil_iff_forall_not_mem
def jH := @List.all_cons
def jI := @List.any_cons
def jJ := @List.findIdx?_append
def jO := @List.length_set
def jP := @List.find?_some
def jR := @run_callFunc_extern
def jS := @List.map_congr_left
def jT := @List.mergeSort_perm
def jU := @List.flatMap_append
def jV := @beq_eq_false_iff_ne
def jW := @List.take_length_add_append
def jX := @Nat.add_zero
def kc := @run_loadCells_list
def kd := @grownCap_le_maxLen
def ke := @List.drop_take
def kf := @List.map_replicate
def kh := @beq_iff_eq
def ki := @List.map_mergeSort
def kA := @UInt8.toNat_lt
def kB := @Bool.and_assoc
def kC := @Nat.le_succ
def kD := @run_storeCells_at
def kW := @UInt8.ofNat_toNat
def kX := @List.find?_append
def kY := @ByteArray.ext
def la := @List.mem_flatten
def lb := @List.zipIdx_cons
def lc := @List.take_length
def lh := @List.mem_flatMap
def lp := @Nat.one_mul
def lq := @getD_set_ne
def ly := @mem_ready
def qh (E : Nat → Value) (d : Nat) (v : Value) : Nat → Value := fun t => if t = d then v else E t
def lY (E : Nat → Value) : Operand → Value
 | .tmp t => E t
 | .const v => v
 | .global g => .pointer (some ⟨g, 0, none⟩)
 | .func f => .func (.func f) #[] #[]
def Ag (n : Nat) (a : Act) (E : Nat → Value) : Prop := a.tmps.size = n ∧ a.defers = [] ∧ ∀ t, a.tmps.getD t undef = E t
section
variable {n : Nat} {a : Act} {E : Nat → Value}
theorem Ag.eval (h : Ag n a E) : a.eval = lY E := by
 funext x
 cases x with
 | tmp t => exact h.2.2 t
 | const v => rfl
 | global g => rfl
 | func f => rfl
theorem Ag.put (h : Ag n a E) {d : Nat} (g : d < n) (v : Value) : Ag n (a.put (some d) v) (qh E d v) := by
 refine ⟨by simp [Act.put, h.1], h.2.1, fun t => ?_⟩
 have c := h.2.2 t
 simp only [Act.put, qh]
 by_cases b : t = d
 ·subst b
  simp [h.1, g]
 ·have : ¬ d = t := fun e => b e.symm
  rw [aY b, ← c]
  simp [fR, this]
theorem Ag.B6 (h : Ag n a E) (v : Value) : Ag n (a.put none v) E := h
theorem Ag.yield (h : Ag n a E) {ops : Array Oper} {j t : Nat} {b : Bool} (d : (ops[j]?).bind (·.dst) = some t) (i : t < n) (k : E t = .bool b) : yielded ops a.tmps j = some b := by
 have c := h.2.2 t
 have g : a.tmps[t]? = some (E t) := by
  rw [← c]
  simp [fR, h.1, i]
 simp [yielded, d, g, k]
end
abbrev tF := Exit → (Nat → Value) → World → Prop
def lift (n : Nat) (Q : tF) : Exit → Act → World → Prop
 | .panic _, _, _ => False
 | .outgrown, _, _ => False
 | e, a, w => ∃ E, Ag n a E ∧ Q e E w
def CW (P : Program) (n : Nat) (c : Code) (Q : tF) (E : Nat → Value) (W : World) : Prop := ∀ a, Ag n a E → c.wp P (lift n Q) a W
def LW (P : Program) (n : Nat) (ops : Array Oper) (Q : tF) (l : List Oper) (E : Nat → Value) (W : World) : Prop := ∀ a, Ag n a E → wpList P ops (lift n Q) l a W
def tC (K : (Nat → Value) → World → Prop) (Q : tF) : tF
 | .normal, E, W => K E W
 | e, E, W => Q e E W
def zt (id : Nat) (Q : tF) : tF
 | .exit j, E, W => if j = id then Q .normal E W else Q (.exit j) E W
 | e, E, W => Q e E W
section
variable {P : Program} {n : Nat} {Q : tF} {E : Nat → Value} {W : World} {c x y : Code} {ops : Array Oper} {rest : List Oper} {o : Oper}
theorem KG {Q' : tF} (h : CW P n c Q E W) (g : ∀ e E W, Q e E W → Q' e E W) : CW P n c Q' E W := fun a ha =>
 wp_mono (h a ha) (fun e _ _ h => by
  cases e with
  | panic c => exact h
  | outgrown => exact h
  | _ => obtain ⟨E', b, d⟩ := h; exact ⟨E', b, g _ _ _ d⟩)
theorem mf (h : CW P n x (tC (fun E W => CW P n y Q E W) Q) E W) : CW P n (.seq x y) Q E W := fun a ha =>
 wp_seq (wp_mono (h a ha) (fun e c g h => by
  cases e with
  | normal => obtain ⟨E', b, d⟩ := h; exact d c b
  | _ => exact h))
theorem nf (h : Q .normal E W) : CW P n .skip Q E W := fun _ ha => wp_skip ⟨E, ha, h⟩
theorem mu (h : Q .ret E W) : CW P n .ret Q E W := fun _ ha => wp_ret ⟨E, ha, h⟩
theorem pk {id : Nat} (h : Q (.exit id) E W) : CW P n (.exit id) Q E W := fun _ ha => wp_exit ⟨E, ha, h⟩
theorem nL {id : Nat} (h : CW P n c (zt id Q) E W) : CW P n (.block id c) Q E W := fun a ha =>
 wp_block (wp_mono (h a ha) (fun e i k h => by
  cases e with
  | exit j =>
   obtain ⟨E', b, d⟩ := h
   simp only [Exit.inBlock]
   simp only [zt] at d
   split at d
   ·rename_i g; rw [aZ g]; exact ⟨E', b, d⟩
   ·rename_i g; rw [aY g]; exact ⟨E', b, d⟩
  | _ => exact h))
theorem PO {co : Operand} {b : Bool} (c : lY E co = .bool b) (g : b = true → CW P n x Q E W) (d : b = false → CW P n y Q E W) : CW P n (.cond co x y) Q E W := fun a ha => by
 refine wp_cond_split (t := b) (by rw [ha.eval]; exact c) (fun h => g h a ha) (fun h => d h a ha)
theorem vX {co : Operand} (a : lY E co = .bool true) (h : CW P n x Q E W) : CW P n (.cond co x y) Q E W := PO a (fun _ => h) (fun h => by cases h)
theorem qx {co : Operand} (a : lY E co = .bool false) (h : CW P n y Q E W) : CW P n (.cond co x y) Q E W := PO a (fun h => by cases h) (fun _ => h)
theorem ma {id : Nat} {l : List Oper} (h : LW P n l.toArray Q l E W) : CW P n (.region id l.toArray false) Q E W := fun a ha => wp_region_lit (h a ha)
theorem mz (h : Q .normal E W) : LW P n ops Q [] E W := fun _ ha => wpList_nil ⟨E, ha, h⟩
theorem Md {P : Program} {c : Code} {Q : Exit → Act → World → Prop} {a : Act} {w : World} (I : Nat → Act → World → Prop) (m : Nat) (u : I m a w) (round : ∀ m a w, I m a w → c.wp P (Exit.then (fun q r => ∃ y, y < m ∧ I y q r) Q) a w) : (Code.loop c).wp P Q a w := by
 intro b k cs
 have key : ∀ m a w, I m a w → ∃ e q r, Q e q r ∧ Arrives P (lone (b.at a (.code c :: .inLoop c :: k)) cs w) b k cs e q r := by
  intro m
  induction m using Nat.strongRecOn with
  | _ m ih =>
   intro a w A
   obtain ⟨e, g, h, j, d⟩ := round m a w A b (.inLoop c :: k) cs
   cases e with
   | normal =>
    obtain ⟨y, z, n⟩ := j
    obtain ⟨t, s, v, o, i⟩ := ih y z g h n
    exact ⟨t, s, v, o, .of_steps (Steps.trans d (.one step_inLoop)) i⟩
   | exit id => exact ⟨_, g, h, j, .pass (x := .inLoop c) rfl (fun _ _ => .inl (by simp)) d⟩
   | goto l => exact ⟨_, g, h, j, .pass (x := .inLoop c) rfl (fun _ _ => .inl (by simp)) d⟩
   | ret => exact ⟨_, g, h, j, .pass (x := .inLoop c) rfl (fun _ _ => .inl (by simp)) d⟩
   | panic D => exact ⟨_, g, h, j, .pass (x := .inLoop c) rfl (fun _ _ => .inl (by simp)) d⟩
   | outgrown => exact ⟨_, g, h, j, .pass (x := .inLoop c) rfl (fun _ _ => .inl (by simp)) d⟩
 obtain ⟨e, q, r, j, d⟩ := key m a w u
 exact ⟨e, q, r, j, .of_steps (.one step_loop) d⟩
theorem pn (I : Nat → (Nat → Value) → World → Prop) (m : Nat) (b : I m E W) (round : ∀ m E W, I m E W → CW P n c (tC (fun E' W' => ∃ d, d < m ∧ I d E' W') Q) E W) : CW P n (.loop c) Q E W := fun a ha =>
 Md (fun m a w => ∃ E, Ag n a E ∧ I m E w) m ⟨E, ha, b⟩ (fun m a w ⟨E, ha, k⟩ =>
  wp_mono (round m E w k a ha) (fun e l o h => by
   cases e with
   | normal => obtain ⟨E', i, d, j, g⟩ := h; exact ⟨d, j, E', i, g⟩
   | _ => exact h))
def ml (n : Nat) (ops : Array Oper) (E : Nat → Value) (o : Oper) : Prop :=
 o.guard = none ∨ ∃ j want t, o.guard = some (j, want) ∧ (ops[j]?).bind (·.dst) = some t ∧ t < n ∧ E t = .bool want
theorem ml.of {a : Act} (h : ml n ops E o) (ha : Ag n a E) : Region.wanted o (yielded ops a.tmps) = true := by
 rcases h with h | ⟨j, want, t, c, d, g, b⟩
 ·simp [Region.wanted, h]
 ·simp [Region.wanted, c, ha.yield d g b]
theorem Q5 {d : Nat} {v : Value} {W' : World} (hw : ml n ops E o) (b : o.dst = some d) (c : d < n) (g : (execOp (lY E) o).run P W = .ok (.value v) W') (h : LW P n ops Q rest (qh E d v) W') : LW P n ops Q (o :: rest) E W := fun a ha => by
 unfold wpList
 rw [aZ (hw.of ha)]
 refine .inl ?_
 unfold Oper.wp
 rw [ha.eval, g, jb, b]
 exact h _ (ha.put c v)
theorem Sf {W' : World} (hw : ml n ops E o) (b : o.dst = none) (c : (execOp (lY E) o).run P W = .ok .skip W') (h : LW P n ops Q rest E W') : LW P n ops Q (o :: rest) E W := fun a ha => by
 unfold wpList
 rw [aZ (hw.of ha)]
 refine .inl ?_
 unfold Oper.wp
 rw [ha.eval, c, jk, b]
 exact h _ (ha.B6 _)
theorem SJ {f : FuncId} {args : Array Value} {d : Nat} (hw : ml n ops E o) (c : o.dst = some d) (i : d < n) (j : (execOp (lY E) o).run P W = .ok (.enter f args) W) (h : Calls P f args W fun e b => ∃ v, e = .returned v ∧ LW P n ops Q rest (qh E d v) b) : LW P n ops Q (o :: rest) E W := fun a ha => by
 unfold wpList
 rw [aZ (hw.of ha)]
 refine .inl ?_
 unfold Oper.wp
 rw [ha.eval, j, jc]
 refine h.mono ?_
 rintro e b ⟨v, rfl, g⟩
 simp only [c]
 exact g _ (ha.put i v)
theorem Wo {d j t : Nat} {want : Bool} (c : o.dst = some d) (k : d < n) (g : o.guard = some (j, want)) (i : (ops[j]?).bind (·.dst) = some t) (l : t < n) (b : E t = .bool (!want)) (h : LW P n ops Q rest (qh E d undef) W) : LW P n ops Q (o :: rest) E W := fun a ha => by
 unfold wpList
 have m := ha.yield i l b
 rw [aY (by simp [Region.wanted, g, m])]
 rw [c]
 exact h _ (ha.put k _)
end
variable {dd : Bool}
abbrev mN := Nat → Option Obj
def hp (W : World) : mN := fun b => W.heap[b]?
def wC (dd : Bool) (a b : Nat) : Prop := dd = true → a ≤ b
theorem wC.of {dd : Bool} {a b : Nat} (h : a ≤ b) : wC dd a b := fun _ => h
theorem wC.trans {dd : Bool} {a b c : Nat} (h : wC dd a b) (k : wC dd b c) : wC dd a c := fun e => dO (h e) (k e)
structure Ex (dd : Bool) (w W : World) : Prop where
 os : W.os = w.os
 tape : W.tape = w.tape
 output : W.output = w.output
 drawn : wC dd w.drawn W.drawn
 size : w.heap.size ≤ W.heap.size
 oG : ∀ b, b < w.heap.size → W.heap[b]? = w.heap[b]?
theorem Ex.refl (w : World) : Ex dd w w := ⟨rfl, rfl, rfl, wC.of (bA _), bA _, fun _ _ => rfl⟩
theorem Ex.trans {a b c : World} (h : Ex dd a b) (k : Ex dd b c) : Ex dd a c :=
 ⟨k.os.trans h.os, k.tape.trans h.tape, k.output.trans h.output, wC.trans h.drawn k.drawn, dO h.size k.size, fun i d => (k.oG i (eZ d h.size)).trans (h.oG i d)⟩
theorem Ex.drew (w : World) : Ex dd w w.drew := ⟨rfl, rfl, rfl, wC.of (kC _), bA _, fun _ _ => rfl⟩
theorem Ex.alloc (w : World) (o : Obj) : Ex dd w (w.alloc o) := ⟨rfl, rfl, rfl, wC.of (bA _), by show w.heap.size ≤ (w.heap.push o).size; simp, fun k hk => Below.heap_alloc w o k hk⟩
theorem Ex.nz {w W : World} (h : Ex true w W) : Ex dd w W := ⟨h.os, h.tape, h.output, wC.of (h.drawn rfl), h.size, h.oG⟩
def mx (μ μ' : mN) : Prop := ∀ b o, μ b = some o → μ' b = some o
theorem mx.refl (μ : mN) : mx μ μ := fun _ _ h => h
theorem mx.trans {a b c : mN} (h : mx a b) (k : mx b c) : mx a c := fun x o d => k x o (h x o d)
structure ST (dd : Bool) (F : Nat → Prop) (w W : World) (μ : mN) (L : List (Nat × Obj)) : Prop where
 os : W.os = w.os
 tape : W.tape = w.tape
 output : W.output = w.output
 drawn : wC dd w.drawn W.drawn
 size : w.heap.size ≤ W.heap.size
 oG : ∀ b, b < w.heap.size → ¬ F b → W.heap[b]? = w.heap[b]?
 mem : ∀ b o, μ b = some o → W.heap[b]? = some o
 box : ∀ b o, (b, o) ∈ L → W.heap[b]? = some o ∧ μ b = none ∧ (w.heap.size ≤ b ∨ F b)
 nd : (L.map (·.1)).Nodup
def mD : Nat → Prop := fun _ => False
theorem ST.start (w : World) : ST dd mD w w (hp w) [] :=
 ⟨rfl, rfl, rfl, wC.of (bA _), bA _, fun _ _ _ => rfl, fun _ _ h => h, fun _ _ h => (by cases h), by simp⟩
section
variable {F : Nat → Prop} {w W W' : World} {μ μ' : mN} {L L' : List (Nat × Obj)}
theorem ST.ex (h : ST dd mD w W μ L) : Ex dd w W := ⟨h.os, h.tape, h.output, h.drawn, h.size, fun b a => h.oG b a (fun x => x)⟩
theorem Ta (W : World) (o : Obj) : (W.alloc o).heap[W.heap.size]? = some o := heap_alloc_new W o
theorem qj {W : World} {b : Nat} {o : Obj} (h : W.heap[b]? = some o) : b < W.heap.size := (dV.1 h).1
theorem ST.drew (h : ST dd F w W μ L) : ST dd F w W.drew μ L :=
 ⟨h.os, h.tape, h.output, wC.trans h.drawn (wC.of (kC _)), h.size, h.oG, h.mem, h.box, h.nd⟩
theorem ST.GV (h : ST dd F w W μ L) {b : Nat} {o : Obj} (a : (b, o) ∈ L) : b < W.heap.size := qj (h.box b o a).1
theorem ST.alloc (h : ST dd F w W μ L) (o : Obj) : ST dd F w (W.alloc o) μ ((W.heap.size, o) :: L) := by
 refine ⟨h.os, h.tape, h.output, h.drawn, dO h.size (Ex.alloc (dd := true) W o).size, fun b a i => ?_, fun b c a => ?_, fun b c a => ?_, ?_⟩
 ·rw [(Ex.alloc (dd := true) W o).oG b (eZ a h.size)]; exact h.oG b a i
 ·have := h.mem b c a
  rw [(Ex.alloc (dd := true) W o).oG b (qj this)]; exact this
 ·rcases aS.1 a with e | a
  ·cases e
   refine ⟨Ta W o, ?_, .inl h.size⟩
   cases hm : μ W.heap.size with
   | none => rfl
   | some x => have := qj (h.mem _ _ hm); omega
  ·obtain ⟨h1, d, g⟩ := h.box b c a
   exact ⟨by rw [(Ex.alloc (dd := true) W o).oG b (qj h1)]; exact h1, d, g⟩
 ·simp only [bM, dT]
  refine ⟨fun hm => ?_, h.nd⟩
  obtain ⟨⟨b, c⟩, a, e⟩ := bJ.1 hm
  have := h.GV a
  simp at e
  omega
theorem ST.put {A B : List (Nat × Obj)} {b : Nat} {o m : Obj} (h : ST dd F w W μ (A ++ (b, o) :: B)) (t : W'.os = W.os ∧ W'.tape = W.tape ∧ W'.output = W.output ∧ W.drawn ≤ W'.drawn ∧ W'.heap.size = W.heap.size) (d : ∀ k, k ≠ b → W'.heap[k]? = W.heap[k]?) (u : W'.heap[b]? = some m) : ST dd F w W' μ (A ++ (b, m) :: B) := by
 obtain ⟨h1, n, q, r, s⟩ := t
 have c := h.box b o (by simp)
 have a := h.nd
 simp only [cM, bM] at a
 have g : ∀ x o, (x, o) ∈ A → x ≠ b := fun x o j e => by
  subst e
  have := (cA.1 a).2.2 x (bJ.2 ⟨_, j, rfl⟩) x (by simp)
  exact this rfl
 have i : ∀ x o, (x, o) ∈ B → x ≠ b := fun x o j e => by
  subst e
  have := (dT.1 (cA.1 a).2.1).1
  exact this (bJ.2 ⟨_, j, rfl⟩)
 refine ⟨h1.trans h.os, n.trans h.tape, q.trans h.output, wC.trans h.drawn (wC.of r), by rw [s]; exact h.size, fun k hk l => ?_, fun k x hk => ?_, fun k x hk => ?_, by simpa using a⟩
 ·rw [d k (fun e => by subst e; rcases c.2.2 with h | h; omega; exact l h)]
  exact h.oG k hk l
 ·rw [d k (fun e => by subst e; rw [c.2.1] at hk; cases hk)]
  exact h.mem k x hk
 ·rcases aQ.1 hk with hk | hk
  ·rw [d k (g k x hk)]; exact h.box k x (by simp [hk])
  ·rcases aS.1 hk with e | hk
   ·cases e; exact ⟨u, c.2⟩
   ·rw [d k (i k x hk)]; exact h.box k x (by simp [hk])
def Lo (F : Nat → Prop) (w : World) (μ μ' : mN) : Prop := ∀ b, b < w.heap.size → ¬ F b → μ' b = μ b
theorem Lo.refl {F : Nat → Prop} {w : World} {μ : mN} : Lo F w μ μ := fun _ _ _ => rfl
theorem Lo.trans {F : Nat → Prop} {w : World} {a b c : mN} (h : Lo F w a b) (k : Lo F w b c) : Lo F w a c := fun x g d => (k x g d).trans (h x g d)
def grow (μ : mN) (W W' : World) : mN := fun b => if b < W.heap.size then μ b else W'.heap[b]?
theorem ST.FT (h : ST dd F w W μ L) {b : Nat} {o : Obj} (a : μ b = some o) : b < W.heap.size := qj (h.mem b o a)
theorem ST.call (h : ST dd F w W μ L) (c : Ex dd W W') : ST dd F w W' (grow μ W W') L := by
 refine ⟨c.os.trans h.os, c.tape.trans h.tape, c.output.trans h.output, wC.trans h.drawn c.drawn, dO h.size c.size, fun b a j => ?_, fun b o a => ?_, fun b o a => ?_, h.nd⟩
 ·rw [c.oG b (eZ a h.size)]; exact h.oG b a j
 ·unfold grow at a
  split at a
  ·rename_i d; rw [c.oG b d]; exact h.mem b o a
  ·exact a
 ·obtain ⟨h1, g, i⟩ := h.box b o a
  exact ⟨by rw [c.oG b (qj h1)]; exact h1, by unfold grow; rw [aZ (qj h1)]; exact g, i⟩
theorem ST.RX (h : ST dd F w W μ L) (W' : World) : mx μ (grow μ W W') := fun b o a => by
 unfold grow; rw [aZ (h.FT a)]; exact a
theorem ST.nz (h : ST dd F w W μ' L) (c : mx μ μ') : ST dd F w W μ L :=
 ⟨h.os, h.tape, h.output, h.drawn, h.size, h.oG, fun b o a => h.mem b o (c b o a), fun b o a => by
  obtain ⟨h1, d, g⟩ := h.box b o a
  refine ⟨h1, ?_, g⟩
  cases hm : μ b with
  | none => rfl
  | some x => (have := c b x hm; rw [d] at this; cases this), h.nd⟩
theorem ST.JI (h : ST dd F w W μ L) (a : Ex dd W W') : ST dd F w W' μ L := (h.call a).nz (h.RX W')
theorem ST.lL (h : ST dd F w W μ L) : mx μ (hp W) := h.mem
def OR (μ : mN) (b : Nat) (o : Obj) : mN := fun k => if k = b then some o else μ k
theorem ST.KY {A B : List (Nat × Obj)} {b : Nat} {o : Obj} (h : ST dd F w W μ (A ++ (b, o) :: B)) : ST dd F w W (OR μ b o) (A ++ B) := by
 have d := h.box b o (by simp)
 have a := h.nd
 simp only [cM, bM] at a
 have i : ∀ x y, (x, y) ∈ A ++ B → x ≠ b := fun x y c e => by
  subst e
  rcases aQ.1 c with c | c
  ·exact (cA.1 a).2.2 x (bJ.2 ⟨_, c, rfl⟩) x (by simp) rfl
  ·exact (dT.1 (cA.1 a).2.1).1 (bJ.2 ⟨_, c, rfl⟩)
 refine ⟨h.os, h.tape, h.output, h.drawn, h.size, h.oG, fun k x hk => ?_, fun k x hk => ?_, ?_⟩
 ·unfold OR at hk
  split at hk
  ·rename_i e; cases hk; rw [e]; exact d.1
  ·exact h.mem k x hk
 ·have g : (k, x) ∈ A ++ (b, o) :: B := by
   rcases aQ.1 hk with h | h <;> simp [h]
  obtain ⟨h1, j, l⟩ := h.box k x g
  exact ⟨h1, by unfold OR; rw [aY (i k x hk)]; exact j, l⟩
 ·have : (A ++ B).Sublist (A ++ (b, o) :: B) := List.Sublist.append (List.Sublist.refl A) (List.sublist_cons_self _ _)
  exact List.Nodup.sublist (this.map _) h.nd
theorem ST.KD {A B : List (Nat × Obj)} {b : Nat} {o : Obj} (h : ST dd F w W μ (A ++ (b, o) :: B)) : mx μ (OR μ b o) := fun k x hk => by
 unfold OR
 split
 ·rename_i e; subst e; rw [(h.box k o (by simp)).2.1] at hk; cases hk
 ·exact hk
theorem ST.Rx {A B : List (Nat × Obj)} {b : Nat} {o : Obj} (h : ST dd F w W μ (A ++ (b, o) :: B)) : Lo F w μ (OR μ b o) := fun k hk c => by
 refine aY (fun e => ?_)
 subst e
 rcases (h.box k o (by simp)).2.2 with a | a
 ·omega
 ·exact c a
theorem ST.drop {A B : List (Nat × Obj)} {p : Nat × Obj} (h : ST dd F w W μ (A ++ p :: B)) : ST dd F w W μ (A ++ B) :=
 (h.KY (b := p.1) (o := p.2)).nz h.KD
end
abbrev sO (α : Type) := mN → List Value → α → Prop
def Sl {α : Type} (R : sO α) (k : Nat) (μ : mN) (v : Value) (l : List α) : Prop :=
 ∃ A c, v = .slice A l.length c ∧ l.length ≤ c ∧ c ≤ maxLen ∧ (0 < l.length → ∃ b off cs T fr, A = some ⟨b, off, none⟩ ∧ μ b = some (.cells cs T fr) ∧
  ∀ i x, l[i]? = some x → ∃ ys, ys.length = k ∧ R μ ys x ∧ ∀ j y, ys[j]? = some y → cs[off + i * k + j]? = some y)
def At (μ : mN) (v : Value) (ys : List Value) : Prop :=
 ∃ b off cs T fr, v = .pointer (some ⟨b, off, none⟩) ∧ μ b = some (.cells cs T fr) ∧ ∀ j y, ys[j]? = some y → cs[off + j]? = some y
def Fr (B : Nat) (v : Value) : Prop := ∀ b, v.ownBlock = some b → B ≤ b
def JE {α : Type} (R : sO α) : Prop := ∀ μ μ' ys x, mx μ μ' → R μ ys x → R μ' ys x
def Pl {α : Type} (enc : α → List Value) : sO α := fun _ ys x => ys = enc x
theorem Pl.mono {α : Type} (enc : α → List Value) : JE (Pl enc) := fun _ _ _ _ _ h => h
theorem Sl.mono {α : Type} {R : sO α} (t : JE R) {k : Nat} {μ μ' : mN} {v : Value} {l : List α} (h : Sl R k μ v l) (d : mx μ μ') : Sl R k μ' v l := by
 obtain ⟨A, c, h1, g, j, m⟩ := h
 refine ⟨A, c, h1, g, j, fun u => ?_⟩
 obtain ⟨b, off, cs, T, fr, n, o, q⟩ := m u
 exact ⟨b, off, cs, T, fr, n, d _ _ o, fun i x w => let ⟨ys, r, s, a⟩ := q i x w; ⟨ys, r, t _ _ _ _ d s, a⟩⟩
theorem At.mono {μ μ' : mN} {v : Value} {ys : List Value} (h : At μ v ys) (d : mx μ μ') : At μ' v ys := by
 obtain ⟨b, off, cs, T, fr, h1, a, c⟩ := h
 exact ⟨b, off, cs, T, fr, h1, d _ _ a, c⟩
theorem Sl.len {α : Type} {R : sO α} {k : Nat} {μ : mN} {v : Value} {l : List α} (h : Sl R k μ v l) : l.length ≤ 9223372036854775807 := by
 obtain ⟨A, c, h1, b, a, d⟩ := h
 unfold maxLen at a
 omega
theorem Sl.nil {α : Type} (R : sO α) (k : Nat) (μ : mN) : Sl R k μ (.slice none 0 0) [] := ⟨none, 0, rfl, bA _, by decide, fun h => absurd h (by simp)⟩
theorem Fr.mono {B B' : Nat} {v : Value} (h : Fr B v) (a : B' ≤ B) : Fr B' v := fun b c => dO a (h b c)
theorem Fr.nil (B : Nat) : Fr B (.slice none 0 0) := fun b a => by simp [Value.ownBlock] at a
end Go.Proofs.YtklbhegeiijbjaaGreat
namespace Go.Proofs.YtklbhegeiijbjaaGreat
open Go.RowKit
variable {dd : Bool}
section
variable {P : Program} {n : Nat} {Q : tF} {E : Nat → Value} {W : World} {ops : Array Oper} {rest : List Oper}
 {d : Option Nat} {ty : TypeId} {pos : String} {af : Array Edge} {g : Option (Nat × Bool)}
 {F : Nat → Prop} {w : World} {μ : mN} {L : List (Nat × Obj)}
def nZ (P : Program) (E : Nat → Value) (o : Oper) (W : World) (v : Value) (W' : World) : Prop := (execOp (lY E) o).run P W = .ok (.value v) W'
theorem KV {o : Oper} {dd : Nat} {v : Value} (hw : ml n ops E o) (a : o.dst = some dd) (b : dd < n) (c : nZ P E o W v W) (h : LW P n ops Q rest (qh E dd v) W) : LW P n ops Q (o :: rest) E W := Q5 hw a b c h
theorem lP {x : Operand} {v : Value} (a : lY E x = v) : nZ P E ⟨d, .move x, ty, pos, af, g⟩ W v W := by rw [← a]; rfl
theorem oD {x : Operand} {v : Value} (a : lY E x = v) : nZ P E ⟨d, .assign x, ty, pos, af, g⟩ W v W := by rw [← a]; rfl
theorem mh {c x y : Operand} {v : Value} (a : lY E c = .bool true) (b : lY E x = v) : nZ P E ⟨d, .pick c x y, ty, pos, af, g⟩ W v W := by
 show (do pure (.value (if ← asBool (lY E c) then lY E x else lY E y)) : Sem Next).run P W = _
 rw [a, ← b]; simp [asBool]
theorem mi {c x y : Operand} {v : Value} (a : lY E c = .bool false) (b : lY E y = v) : nZ P E ⟨d, .pick c x y, ty, pos, af, g⟩ W v W := by
 show (do pure (.value (if ← asBool (lY E c) then lY E x else lY E y)) : Sem Next).run P W = _
 rw [a, ← b]; simp [asBool]
theorem xy {x : Operand} {i : Nat} {vs : Array Value} {v : Value} (b : lY E x = .tuple vs) (a : vs[i]? = some v) : nZ P E ⟨d, .extract x i, ty, pos, af, g⟩ W v W := by
 show (do pure (.value (← Instr.extract (lY E x) i)) : Sem Next).run P W = _
 rw [b]; simp [Instr.extract, a]
theorem oy {u : TypeId} {x : Operand} {b : Bool} (a : lY E x = .bool b) : nZ P E ⟨d, .unOp .not u x, ty, pos, af, g⟩ W (.bool !b) W := by
 show (do pure (.value (← Op.unary .not (lY E x))) : Sem Next).run P W = _
 rw [a]; simp [Op.unary]
theorem Pu {fn : Fn} {first caps : Array Operand} {v : Value} (a : .func fn (first.map (lY E)) (caps.map (lY E)) = v) : nZ P E ⟨d, .makeFunc fn first caps, ty, pos, af, g⟩ W v W := by
 show (do pure (.value (← Instr.makeFunc fn (first.map (lY E)) (caps.map (lY E)))) : Sem Next).run P W = _
 rw [← a]; simp [Instr.makeFunc]
def Mw (k : IntKind) (op : BinOp) (a b : Int) : Option Value :=
 match op with
 | .eql => some (.bool (a == b))
 | .neq => some (.bool (a != b))
 | .lss => some (.bool (decide (a < b)))
 | .leq => some (.bool (decide (a ≤ b)))
 | .gtr => some (.bool (decide (a > b)))
 | .geq => some (.bool (decide (a ≥ b)))
 | .add => some (.int k (k.wrap (a + b)))
 | .sub => some (.int k (k.wrap (a - b)))
 | .mul => some (.int k (k.wrap (a * b)))
 | _ => none
theorem mP {op : BinOp} {c l : TypeId} {x y : Operand} {k : IntKind} {a b : Int} {v : Value} (i : lY E x = .int k a) (j : lY E y = .int k b) (h : Mw k op a b = some v) :
  nZ P E ⟨d, .binOp op c x y l, ty, pos, af, g⟩ W v W := by
 show (do let r ← (do eqGuard op c x y (lY E x) (lY E y); binOp op c (lY E x) (lY E y)); pure (.value r) : Sem Next).run P W = _
 rw [i, j]
 cases op <;> simp [Mw] at h <;> subst h <;> simp [eqGuard, binOp, Op.intCmp, Op.intArith]
def TE (op : BinOp) (a b : ByteArray) : Option Value :=
 match op with
 | .eql => some (.bool (a.toList == b.toList))
 | .neq => some (.bool !(a.toList == b.toList))
 | .lss => some (.bool (Op.bytesLess a.toList b.toList))
 | .leq => some (.bool (Op.bytesLess a.toList b.toList || a.toList == b.toList))
 | .gtr => some (.bool !(Op.bytesLess a.toList b.toList || a.toList == b.toList))
 | .geq => some (.bool !(Op.bytesLess a.toList b.toList))
 | _ => none
def B3 (a b : ByteArray) : Option ByteArray := if ((a.size + b.size : Nat) : Int) > IntKind.i64.max then none else some (a ++ b)
theorem ux {op : BinOp} {c k : TypeId} {x y : Operand} {a b : ByteArray} {v : Value} (i : lY E x = .string a) (j : lY E y = .string b) (h : TE op a b = some v) :
  nZ P E ⟨d, .binOp op c x y k, ty, pos, af, g⟩ W v W := by
 show (do let r ← (do eqGuard op c x y (lY E x) (lY E y); binOp op c (lY E x) (lY E y)); pure (.value r) : Sem Next).run P W = _
 rw [i, j]
 cases op <;> simp [TE] at h <;> subst h <;> simp [eqGuard, binOp, Op.stringOp]
theorem Dh {h k : TypeId} {x y : Operand} {a b r : ByteArray} (i : lY E x = .string a) (j : lY E y = .string b) (c : B3 a b = some r) :
  nZ P E ⟨d, .binOp .add h x y k, ty, pos, af, g⟩ W (.string r) W := by
 show (do let r ← (do eqGuard .add h x y (lY E x) (lY E y); binOp .add h (lY E x) (lY E y)); pure (.value r) : Sem Next).run P W = _
 rw [i, j]
 simp only [B3] at c
 split at c
 ·cases c
 ·rename_i hle; cases c; simp [eqGuard, binOp, Op.stringOp]; simpa using hle
theorem vx {c l : TypeId} {x y : Operand} {a b : Array Value} {r : Bool} (j : lY E x = .agg a) (k : lY E y = .agg b) (h : ∀ W, (eqGuard .eql c x y (.agg a) (.agg b)).run P W = .ok () W) (i : ∀ W, (binOp .eql c (.agg a) (.agg b)).run P W = .ok (.bool r) W) : nZ P E ⟨d, .binOp .eql c x y l, ty, pos, af, g⟩ W (.bool r) W := by
 show (do let r ← (do eqGuard .eql c x y (lY E x) (lY E y); binOp .eql c (lY E x) (lY E y)); pure (.value r) : Sem Next).run P W = _
 rw [j, k]; simp [h W, i W]
theorem Gk {c l : TypeId} {x y : Operand} {a b : Array Value} {r : Bool} (j : lY E x = .agg a) (k : lY E y = .agg b) (h : ∀ W, (eqGuard .neq c x y (.agg a) (.agg b)).run P W = .ok () W) (i : ∀ W, (binOp .neq c (.agg a) (.agg b)).run P W = .ok (.bool r) W) : nZ P E ⟨d, .binOp .neq c x y l, ty, pos, af, g⟩ W (.bool r) W := by
 show (do let r ← (do eqGuard .neq c x y (lY E x) (lY E y); binOp .neq c (lY E x) (lY E y)); pure (.value r) : Sem Next).run P W = _
 rw [j, k]; simp [h W, i W]
theorem Ek {t e : TypeId} (dd : Nat) (b : P.underlying t = some (.pointer e)) (a : Option Addr) (W : World) : (Op.equalIn (dd + 1) t (.pointer a) (.pointer none)).run P W = .ok a.isNone W := by
 cases a <;> simp [Op.equalIn, aX b]
theorem uc {b k e : TypeId} {x y : Operand} {a : Option Addr} (h : P.underlying b = some (.pointer e)) (i : lY E x = .pointer a) (j : lY E y = .pointer none) :
  nZ P E ⟨d, .binOp .eql b x y k, ty, pos, af, g⟩ W (.bool a.isNone) W := by
 show (do let r ← (do eqGuard .eql b x y (lY E x) (lY E y); binOp .eql b (lY E x) (lY E y)); pure (.value r) : Sem Next).run P W = _
 rw [i, j]
 have c := Ek 9999 h a W
 simp [eqGuard, binOp, Op.equal, show Op.maxDepth = 9999 + 1 from rfl, c]
theorem Dt {b k e : TypeId} {x y : Operand} {a : Option Addr} (h : P.underlying b = some (.pointer e)) (i : lY E x = .pointer a) (j : lY E y = .pointer none) :
  nZ P E ⟨d, .binOp .neq b x y k, ty, pos, af, g⟩ W (.bool !a.isNone) W := by
 show (do let r ← (do eqGuard .neq b x y (lY E x) (lY E y); binOp .neq b (lY E x) (lY E y)); pure (.value r) : Sem Next).run P W = _
 rw [i, j]
 have c := Ek 9999 h a W
 simp [eqGuard, binOp, Op.equal, show Op.maxDepth = 9999 + 1 from rfl, c]
theorem pL {x : Operand} {t : TypeId} {s : ByteArray} (a : P.underlying t = some .string) (b : lY E x = .string s) : nZ P E ⟨d, .call ⟨.builtin .len, #[x], #[t]⟩, ty, pos, af, g⟩ W (.int .i64 s.size) W := by
 show (do let d ← resolve (lY E) ⟨.builtin .len, #[x], #[t]⟩ ty; invoke d.target d.args : Sem Next).run P W = _
 simp [resolve, invoke, builtin, Builtin.len_, aX a, b, goInt]
theorem Ac {x : Operand} {t e : TypeId} {A : Option Addr} {l c : Nat} (a : P.underlying t = some (.slice e)) (b : lY E x = .slice A l c) : nZ P E ⟨d, .call ⟨.builtin .len, #[x], #[t]⟩, ty, pos, af, g⟩ W (.int .i64 l) W := by
 show (do let d ← resolve (lY E) ⟨.builtin .len, #[x], #[t]⟩ ty; invoke d.target d.args : Sem Next).run P W = _
 simp [resolve, invoke, builtin, Builtin.len_, aX a, b, goInt]
theorem mV {α : Type} {R : sO α} {k : Nat} {m : mN} {x : Operand} {t e : TypeId} {v : Value} {l : List α} (b : P.underlying t = some (.slice e)) (h : lY E x = v) (a : Sl R k m v l) : nZ P E ⟨d, .call ⟨.builtin .len, #[x], #[t]⟩, ty, pos, af, g⟩ W (.int .i64 l.length) W := by
 obtain ⟨A, c, rfl, _⟩ := a
 exact Ac b h
theorem Du {t : TypeId} {x a : Operand} {m : IntKind} {s : ByteArray} {i : Int} {c : UInt8} (k : P.underlying t = some .string) (l : lY E x = .string s) (h : lY E a = .int m i) (b : 0 ≤ i) (j : s[i.toNat]? = some c) :
  nZ P E ⟨d, .index t x a, ty, pos, af, g⟩ W (.int .u8 c.toNat) W := by
 show (do pure (.value (← Instr.index t (lY E x) (lY E a))) : Sem Next).run P W = _
 rw [l, h]
 simp [Instr.index, asIntOf, aX k, b, j]
def ny (P : Program) (t : TypeId) (f off : Nat) : Prop := ∀ b o w, (Instr.fieldAt t (.pointer (some ⟨b, o, none⟩)) f).run P w = .ok (.pointer (some ⟨b, o + off, none⟩)) w
theorem lO {t : TypeId} {x : Operand} {f off b o : Nat} (a : ny P t f off) (c : lY E x = .pointer (some ⟨b, o, none⟩)) : nZ P E ⟨d, .fieldAddr t x f, ty, pos, af, g⟩ W (.pointer (some ⟨b, o + off, none⟩)) W := by
 show (do pure (.value (← Instr.fieldAt t (lY E x) f)) : Sem Next).run P W = _
 rw [c]; simp [a b o W]
theorem uq {t : TypeId} {x : Operand} {f off : Nat} {v : Value} {ys : List Value} (zs : List Value) (i : ny P t f off) (m : lY E x = v) (l : At μ v ys) (n : (ys.drop off).take zs.length = zs) :
  ∃ c, At μ c zs ∧ ∀ W, nZ P E ⟨d, .fieldAddr t x f, ty, pos, af, g⟩ W c W := by
 obtain ⟨b, o, cs, T, fr, rfl, h1, h⟩ := l
 refine ⟨_, ⟨b, o + off, cs, T, fr, rfl, h1, fun j y a => ?_⟩, fun W => lO i m⟩
 have k : j < zs.length := (bN.1 a).1
 have := h (off + j) y (by
  rw [← n, eT k, eJ] at a
  exact a)
 rw [fL]
 exact this
theorem nN {x : Operand} {a : Addr} (b : lY E x = .pointer (some a)) : nZ P E ⟨d, .nilCheck x, ty, pos, af, g⟩ W (.pointer (some a)) W := by
 unfold nZ execOp
 simp [b]
theorem KZ {α : Type} {R : sO α} {k : Nat} {t e : TypeId} {x h : Operand} {M : IntKind} {v : Value} {i : Int} {l : List α} {x0 : α} (I : P.underlying t = some (.slice e)) (he : ∀ w, (sizeOf e).run P w = .ok k w) (J : lY E x = v) (D : lY E h = .int M i) (G : Sl R k μ v l) (n : 0 ≤ i) (m : l[i.toNat]? = some x0) :
  ∃ p ys, ys.length = k ∧ R μ ys x0 ∧ At μ p ys ∧ ∀ W, nZ P E ⟨d, .indexAddr t x h, ty, pos, af, g⟩ W p W := by
 obtain ⟨A, c, rfl, O, Q, o⟩ := G
 have F : i.toNat < l.length := (bN.1 m).1
 obtain ⟨b, off, cs, T, fr, rfl, q, r⟩ := o (by omega)
 obtain ⟨ys, s, u, a⟩ := r i.toNat x0 m
 refine ⟨.pointer (some ⟨b, off + i.toNat * k, none⟩), ys, s, u, ⟨b, off + i.toNat * k, cs, T, fr, rfl, q, fun j y L => a j y L⟩, fun W => ?_⟩
 show (do pure (.value (← Instr.indexAt t (lY E x) (lY E h))) : Sem Next).run P W = _
 rw [J, D]
 have z : 0 ≤ i ∧ i < (l.length : Int) := ⟨n, by omega⟩
 simp [Instr.indexAt, asIntOf, aX I, he W, z, eE]
theorem og {α : Type} {enc : α → List Value} {k : Nat} {t e : TypeId} {x a : Operand} {s : IntKind} {v : Value} {i : Int} {l : List α} {x0 : α} (q : P.underlying t = some (.slice e)) (he : ∀ w, (sizeOf e).run P w = .ok k w) (r : lY E x = v) (m : lY E a = .int s i) (o : Sl (Pl enc) k μ v l) (b : 0 ≤ i) (n : l[i.toNat]? = some x0) :
  ∃ p, At μ p (enc x0) ∧ ∀ W, nZ P E ⟨d, .indexAddr t x a, ty, pos, af, g⟩ W p W := by
 obtain ⟨p, ys, h1, c, h, j⟩ := KZ (d := d) (ty := ty) (pos := pos) (af := af) (g := g) q he r m o b n
 cases c
 exact ⟨p, h, j⟩
theorem L7 (P : Program) {W : World} {b off : Nat} {cs : Array Value} {T : TypeId} {fr : Nat × Nat} (a : W.heap[b]? = some (.cells cs T fr)) (ys : List Value) (d : ∀ j y, ys[j]? = some y → cs[off + j]? = some y) :
  (loadCells ⟨b, off, none⟩ ys.length).run P W = .ok ys.toArray W :=
 kc W ⟨b, off, none⟩ ys (fun j v c => by rw [eE, jg W b (off + j) cs T fr a]; exact d j v c)
theorem E1 {W : World} {t : TypeId} {b off : Nat} {cs : Array Value} {T : TypeId} {fr : Nat × Nat} (a : ∀ w, (isAgg t).run P w = .ok true w) (ys : List Value) (c : ∀ w, (sizeOf t).run P w = .ok ys.length w) (d : W.heap[b]? = some (.cells cs T fr)) (g : ∀ j y, ys[j]? = some y → cs[off + j]? = some y) : (Instr.loadAt t (.pointer (some ⟨b, off, none⟩))).run P W = .ok (.agg ys.toArray) W := by
 simp [Instr.loadAt, Instr.sureAddr, loadVar, a W, c W, L7 P d ys g]
theorem EU {W : World} {t : TypeId} {b off : Nat} {cs : Array Value} {T : TypeId} {fr : Nat × Nat} (a : ∀ w, (isAgg t).run P w = .ok false w) {y : Value} (c : W.heap[b]? = some (.cells cs T fr)) (g : cs[off]? = some y) : (Instr.loadAt t (.pointer (some ⟨b, off, none⟩))).run P W = .ok y W := by
 have d : W.cell? ⟨b, off, none⟩ = some y := by rw [jg W b off cs T fr c]; exact g
 simp [Instr.loadAt, Instr.sureAddr, loadVar, a W, load, Sem.run, d]
theorem lJ {t : TypeId} {x : Operand} {a v : Value} (c : lY E x = a) (b : (Instr.loadAt t a).run P W = .ok v W) : nZ P E ⟨d, .load t x, ty, pos, af, g⟩ W v W := by
 show (do pure (.value (← Instr.loadAt t (lY E x))) : Sem Next).run P W = _
 rw [c]; simp [b]
def qc (μ : mN) (A : List (Nat × Obj)) (W : World) : Prop := (∀ b o, μ b = some o → W.heap[b]? = some o) ∧ ∀ b o, (b, o) ∈ A → W.heap[b]? = some o
theorem ST.has (h : ST dd F w W μ L) : qc μ L W := ⟨h.mem, fun b o a => (h.box b o a).1⟩
theorem qc.sub {μ' : mN} {A A' : List (Nat × Obj)} (h : qc μ A W) (d : mx μ' μ) (c : ∀ p, p ∈ A' → p ∈ A) : qc μ' A' W := ⟨fun b o a => h.1 b o (d b o a), fun b o a => h.2 b o (c _ a)⟩
theorem mr {A : List (Nat × Obj)} (hH : qc μ A W) {t : TypeId} {p : Value} {ys : List Value} (hp : At μ p ys) (c : ∀ w, (isAgg t).run P w = .ok true w) (d : ∀ w, (sizeOf t).run P w = .ok ys.length w) :
  (Instr.loadAt t p).run P W = .ok (.agg ys.toArray) W := by
 obtain ⟨b, off, cs, T, fr, rfl, h1, a⟩ := hp
 exact E1 c ys d (hH.1 _ _ h1) a
theorem po {A : List (Nat × Obj)} (hH : qc μ A W) {t : TypeId} {p y : Value} (hp : At μ p [y]) (c : ∀ w, (isAgg t).run P w = .ok false w) :
  (Instr.loadAt t p).run P W = .ok y W := by
 obtain ⟨b, off, cs, T, fr, rfl, h1, a⟩ := hp
 exact EU c (hH.1 _ _ h1) (a 0 y rfl)
theorem lQ {A : List (Nat × Obj)} (hH : qc μ A W) {t : TypeId} {b off : Nat} {cs : Array Value} {T : TypeId} {fr : Nat × Nat} (g : (b, Obj.cells cs T fr) ∈ A) (ys : List Value) (i : (cs.toList.drop off).take ys.length = ys) (d : ∀ w, (isAgg t).run P w = .ok true w) (h : ∀ w, (sizeOf t).run P w = .ok ys.length w) : (Instr.loadAt t (.pointer (some ⟨b, off, none⟩))).run P W = .ok (.agg ys.toArray) W :=
 E1 d ys h (hH.2 _ _ g) (fun j y a => by
  have c : j < ys.length := (bN.1 a).1
  rw [← i, eT c, eJ] at a
  simpa using a)
theorem lX {A : List (Nat × Obj)} (hH : qc μ A W) {t : TypeId} {b off : Nat} {cs : Array Value} {T : TypeId} {fr : Nat × Nat} (c : (b, Obj.cells cs T fr) ∈ A) {y : Value} (d : cs[off]? = some y) (a : ∀ w, (isAgg t).run P w = .ok false w) : (Instr.loadAt t (.pointer (some ⟨b, off, none⟩))).run P W = .ok y W :=
 EU a (hH.2 _ _ c) d
theorem nW {t : TypeId} {a : Array (Nat × Operand)} {b : Array (Nat × Value)} {v : Value} (c : a.map (fun (i, x) => (i, lY E x)) = b) (h : ∀ W, (Instr.build t b).run P W = .ok v W) : nZ P E ⟨d, .build t a, ty, pos, af, g⟩ W v W := by
 show (do pure (.value (← Instr.build t (a.map fun (i, x) => (i, lY E x)))) : Sem Next).run P W = _
 rw [c]; simp [h W]
theorem nw {t : TypeId} {z cs : Array Value} {a : Array Field} {b : Array (Nat × Value)} {pl : Array (Nat × Nat)} (g : ∀ w, (zeroValue t).run P w = .ok (.agg z) w) (d : P.underlying t = some (.struct a)) (hp : ∀ w, (a.mapM fun f => do pure (f.offset, ← sizeOf f.type) : Sem (Array (Nat × Nat))).run P w = .ok pl w) (c : Instr.fill (pl[·]?) z b.toList = some cs) (W : World) : (Instr.build t b).run P W = .ok (.agg cs) W := by
 simp only [Instr.build, cN, g W, bW, aX d, Value.cells]
 rw [hp W]
 simp only [bW, c, dP]
end
theorem HD {α : Type} : ∀ (a : Ask α) (w : World), w.drawn ≤ (w.ask a).2.drawn
 | .done a, w => by simp [World.ask]
 | .ask b range k, w => by
  unfold World.ask
  dsimp only
  split
  ·exact HD (k 0) w
  ·refine dO (kC w.drawn) ?_
   exact HD _ { w with drawn := w.drawn + 1 }
theorem QW (w : World) (c : Sys) : w.drawn ≤ (w.sys c).2.drawn := by
 have h := HD (Kernel.perform c w.os) w
 unfold World.sys
 generalize w.ask (Kernel.perform c w.os) = r at *
 obtain ⟨⟨a, b⟩, d⟩ := r
 cases a <;> simp at h ⊢ <;> exact h
theorem JM {p : Program} {w c : World} {a : Addr} {u : TypeId} {k : Addr} {v : Value} {b : Bool} {l : List Addr} (h : w.viewStore p a u k v b = .ok (c, l)) : c.drawn = w.drawn := by
 unfold World.viewStore at h
 simp only [bind, Except.bind, pure, Except.pure] at h
 split at h
 ·cases h
 ·split at h
  ·cases h
  ·split at h
   ·split at h
    ·cases h
    ·split at h
     ·cases h
     ·cases h; rfl
   ·cases h
theorem Lb {p : Program} {w c : World} {a : Addr} {v : Value} {b : Bool} {l : List Addr} (h : w.farStore p a v b = .ok (c, l)) : c.drawn = w.drawn := by
 unfold World.farStore at h
 split at h
 ·split at h
  ·rename_i h1; cases h; exact JM h1
  ·cases h
 ·cases h
theorem qF {α : Type} {p : Program} : ∀ (s : Sem α) (w d : World) (a : α), s.run p w = .ok a d → w.drawn ≤ d.drawn
 | .pure a, w, d, b, h => by simp only [Sem.run] at h; cases h; exact bA _
 | .load m a k, w, d, b, h => by
  simp only [Sem.run] at h
  split at h
  ·exact qF _ _ _ _ h
  ·split at h
   ·exact qF _ _ _ _ h
   ·cases h
 | .store m a v k, w, d, b, h => by
  have key : ∀ (r : Result α) i, r = .ok b d → (r = (match w.cell? a with
    | some _ => if w.frozen? a then .halt i w else k.run p (w.setCell a v)
    | none => match w.farStore p a v (m == .atomic) with
     | .ok (w, _) => k.run p w
     | .error h => .halt h w)) → w.drawn ≤ d.drawn := by
   intro r i j h
   rw [j] at h
   split at h
   ·split at h
    ·cases h
    ·have := qF k _ _ _ h.symm
     simpa [World.setCell] using this
   ·split at h
    ·rename_i h1
     have g := qF k _ _ _ h.symm
     rw [Lb h1] at g
     exact g
    ·cases h
  cases v with
  | agg cs => simp only [Sem.run] at h; cases h
  | tuple cs => simp only [Sem.run] at h; cases h
  | _ => exact key _ _ h (by simp only [Sem.run]; rfl)
 | .new o k, w, d, b, h => by simp only [Sem.run] at h; have := qF (k _) _ _ _ h; exact this
 | .shape r k, w, d, b, h => by simp only [Sem.run] at h; exact qF _ _ _ _ h
 | .freeze a n k, w, d, b, h => by
  simp only [Sem.run] at h
  have := qF k _ _ _ h
  unfold World.freeze at this
  split at this <;> exact this
 | .frozen a k, w, d, b, h => by simp only [Sem.run] at h; exact qF _ _ _ _ h
 | .getObj r k, w, d, b, h => by
  simp only [Sem.run] at h
  split at h <;> try (cases h; done)
  exact qF _ _ _ _ h
 | .setObj r o k, w, d, b, h => by
  simp only [Sem.run] at h
  split at h <;> try (cases h; done)
  have := qF k _ _ _ h
  exact this
 | .choose q k, w, d, b, h => by
  simp only [Sem.run] at h
  split at h
  ·exact qF _ _ _ _ h
  ·exact dO (kC _) (qF _ _ _ _ h)
 | .sys c k, w, d, b, h => by
  simp only [Sem.run] at h
  exact dO (QW w c) (qF _ _ _ _ h)
 | .program k, w, d, b, h => by simp only [Sem.run] at h; exact qF _ _ _ _ h
 | .mark m k, w, d, b, h => by simp only [Sem.run] at h; exact qF k _ _ _ h
 | .halt x, w, d, b, h => by simp only [Sem.run] at h; cases h
end Go.Proofs.YtklbhegeiijbjaaGreat
namespace Go.Proofs.YtklbhegeiijbjaaGreat
open Go.RowKit
variable {dd : Bool}
section
variable {P : Program} {n : Nat} {Q : tF} {E : Nat → Value} {W : World} {ops : Array Oper} {rest : List Oper}
 {d : Option Nat} {ty : TypeId} {pos : String} {af : Array Edge} {g : Option (Nat × Bool)}
 {F : Nat → Prop} {w : World} {μ : mN} {L : List (Nat × Obj)}
def pv (P : Program) (E : Nat → Value) (o : Oper) (W : World) (K : Value → World → Prop) : Prop :=
 (∃ v W', (execOp (lY E) o).run P W = .ok (.value v) W' ∧ K v W') ∨ (∃ W', (execOp (lY E) o).run P W = .ok .skip W' ∧ K undef W') ∨
 (∃ f args, (execOp (lY E) o).run P W = .ok (.enter f args) W ∧ Calls P f args W fun e a => ∃ v, e = .returned v ∧ K v a)
theorem pv.mono {o : Oper} {K K' : Value → World → Prop} (h : pv P E o W K) (hk : ∀ v W', K v W' → K' v W') : pv P E o W K' := by
 rcases h with ⟨v, W', h1, a⟩ | ⟨W', h1, a⟩ | ⟨f, args, h1, a⟩
 ·exact .inl ⟨v, W', h1, hk _ _ a⟩
 ·exact .inr (.inl ⟨W', h1, hk _ _ a⟩)
 ·exact .inr (.inr ⟨f, args, h1, dW a (fun _ _ ⟨v, b, c⟩ => ⟨v, b, hk _ _ c⟩)⟩)
theorem U3 {o : Oper} {dd : Nat} (hw : ml n ops E o) (c : o.dst = some dd) (d : dd < n) (h : pv P E o W fun v W' => LW P n ops Q rest (qh E dd v) W') : LW P n ops Q (o :: rest) E W := by
 rcases h with ⟨v, W', h1, b⟩ | ⟨W', h1, b⟩ | ⟨f, args, h1, b⟩
 ·exact Q5 hw c d h1 b
 ·intro a ha
  unfold wpList
  rw [aZ (hw.of ha)]
  refine .inl ?_
  unfold Oper.wp
  rw [ha.eval, h1, jk, c]
  exact b _ (ha.put d _)
 ·exact SJ hw c d h1 b
theorem Wy {o : Oper} (hw : ml n ops E o) (c : o.dst = none) (h : pv P E o W fun _ W' => LW P n ops Q rest E W') : LW P n ops Q (o :: rest) E W := by
 rcases h with ⟨v, W', h1, b⟩ | ⟨W', h1, b⟩ | ⟨f, args, h1, b⟩
 ·intro a ha
  unfold wpList
  rw [aZ (hw.of ha)]
  refine .inl ?_
  unfold Oper.wp
  rw [ha.eval, h1, jb, c]
  exact b _ (ha.B6 _)
 ·exact Sf hw c h1 b
 ·intro a ha
  unfold wpList
  rw [aZ (hw.of ha)]
  refine .inl ?_
  unfold Oper.wp
  rw [ha.eval, h1, jc]
  refine dW b ?_
  rintro e g ⟨v, rfl, d⟩
  simp only [c]
  exact d _ (ha.B6 _)
theorem mG {K : Value → World → Prop} {t : TypeId} {x : Operand} {v : Value} (a : ST dd F w W μ L) (c : lY E x = v) (h : ∀ W' b, ST dd F w W' μ ((b, .cells v.cells t (0, 0)) :: L) → K (.pointer (some ⟨b, 0, none⟩)) W') : pv P E ⟨d, .box t x, ty, pos, af, g⟩ W K :=
 .inl ⟨.pointer (some ⟨W.heap.size, 0, none⟩), W.alloc (.cells v.cells t (0, 0)), by
   show (do pure (.value (← Instr.box t (lY E x))) : Sem Next).run P W = _
   rw [c]
   simp [Instr.box, newVar, newRow, newObj, Sem.run], h _ _ (a.alloc _)⟩
theorem my {K : Value → World → Prop} {t : TypeId} {z : Value} (a : ST dd F w W μ L) (c : ∀ w, (zeroValue t).run P w = .ok z w) (h : ∀ W' b, ST dd F w W' μ ((b, .cells z.cells t (0, 0)) :: L) → K (.pointer (some ⟨b, 0, none⟩)) W') : pv P E ⟨d, .alloc t, ty, pos, af, g⟩ W K :=
 .inl ⟨.pointer (some ⟨W.heap.size, 0, none⟩), W.alloc (.cells z.cells t (0, 0)), by
   show (do pure (.value (← Instr.alloc t true (.tuple #[]))) : Sem Next).run P W = _
   simp [Instr.alloc, c W, newVar, newRow, newObj, Sem.run], h _ _ (a.alloc _)⟩
theorem Kz {t e : TypeId} {m k : Nat} {z : Value} {c : Array (Nat × Value)} {cs : Array Value} (g : P.underlying t = some (.slice e)) (d : ∀ w, (sizeOf e).run P w = .ok k w) (h : ∀ w, (zeroValue e).run P w = .ok z w) (hm : m * k ≤ 16777216) (a : Instr.fill (fun i => some (i * k, k)) ((Array.range (m * k)).map (fun i => (if m * k = 0 then (#[] : Array Value) else z.cells)[i % (if m * k = 0 then (#[] : Array Value) else z.cells).size]!)) c.toList = some cs) (W : World) :
  (Instr.buildSlice t m c).run P W = .ok (.slice (some ⟨W.heap.size, 0, none⟩) m m) (W.alloc (.cells cs e (0, 0))) := by
 simp only [Instr.buildSlice, cN, aX g, bW, d W]
 rw [aY (by omega)]
 by_cases b : m * k = 0
 ·simp only [b, aU] at a ⊢
  simp only [cN, dP, bW, a]
  simp [newRow, newObj, Sem.run]
 ·simp only [b, aN] at a ⊢
  simp only [cN, h W, dP, bW, a]
  simp [newRow, newObj, Sem.run]
theorem mH {K : Value → World → Prop} {t e : TypeId} {m : Nat} {c : Array (Nat × Operand)} {j : Array (Nat × Value)} {cs : Array Value} (a : ST dd F w W μ L) (k : c.map (fun (i, x) => (i, lY E x)) = j) (l : ∀ W, (Instr.buildSlice t m j).run P W = .ok (.slice (some ⟨W.heap.size, 0, none⟩) m m) (W.alloc (.cells cs e (0, 0)))) (h : ∀ W' b, ST dd F w W' μ ((b, .cells cs e (0, 0)) :: L) → K (.slice (some ⟨b, 0, none⟩) m m) W') : pv P E ⟨d, .buildSlice t m c, ty, pos, af, g⟩ W K :=
 .inl ⟨.slice (some ⟨W.heap.size, 0, none⟩) m m, W.alloc (.cells cs e (0, 0)), by
   show (do pure (.value (← Instr.buildSlice t m (c.map fun (i, x) => (i, lY E x)))) : Sem Next).run P W = _
   rw [k]
   simp [l W], h _ _ (a.alloc _)⟩
theorem ST.store {A B : List (Nat × Obj)} {b : Nat} {cs : Array Value} {t : TypeId} (c : ST dd F w W μ (A ++ (b, .cells cs t (0, 0)) :: B)) (a : Array Value) :
  ST dd F w (W.setRow b a) μ (A ++ (b, .cells a t (0, 0)) :: B) := by
 have d := (c.box b _ (by simp : (b, Obj.cells cs t (0, 0)) ∈ A ++ (b, .cells cs t (0, 0)) :: B)).1
 refine c.put ⟨rfl, rfl, rfl, bA _, by simp [World.setRow]⟩ (fun k hk => ?_) (setRow_heap W b cs a t (0, 0) d)
 simp only [World.setRow, eS]
 rw [aY (fun e => hk e.symm)]
theorem E6 (P : Program) {W : World} {t : TypeId} {b off : Nat} {cs : Array Value} {T : TypeId} (v : Value) (a : ∀ w, (sizeOf t).run P w = .ok v.cells.size w) (h1 : ∀ u ∈ v.cells.toList, u.oneCell' = true) (c : W.heap[b]? = some (.cells cs T (0, 0))) (d : off + v.cells.size ≤ cs.size) : (Instr.storeAt t (.pointer (some ⟨b, off, none⟩)) v).run P W = .ok () (W.setRow b (cs.toList.take off ++ v.cells.toList ++ cs.toList.drop (off + v.cells.size)).toArray) := by
 have := kD (P := P) b off T v.cells.toList 0 cs W c (by simpa using d) h1
 simp [Instr.storeAt, Instr.sureAddr, storeVar, a W]
 simpa using this
theorem T4 {K : Value → World → Prop} (A : List (Nat × Obj)) {B : List (Nat × Obj)} {t : TypeId} {x y : Operand} (v : Value) {b off : Nat} {cs : Array Value} {T : TypeId} (a : Array Value) (c : ST dd F w W μ (A ++ (b, .cells cs T (0, 0)) :: B)) (m : lY E x = .pointer (some ⟨b, off, none⟩)) (n : lY E y = v) (i : ∀ w, (sizeOf t).run P w = .ok v.cells.size w) (h1 : ∀ u ∈ v.cells.toList, u.oneCell' = true) (l : off + v.cells.size ≤ cs.size) (k : (cs.toList.take off ++ v.cells.toList ++ cs.toList.drop (off + v.cells.size)).toArray = a) (h : ∀ W', ST dd F w W' μ (A ++ (b, .cells a T (0, 0)) :: B) → K undef W') : pv P E ⟨d, .store t x y, ty, pos, af, g⟩ W K :=
 .inr (.inl ⟨W.setRow b a, by
   show (do Instr.storeAt t (lY E x) (lY E y); pure .skip : Sem Next).run P W = _
   have j := (c.box b _ (by simp : (b, Obj.cells cs T (0, 0)) ∈ A ++ (b, .cells cs T (0, 0)) :: B)).1
   rw [m, n]
   simp only [cN, E6 P v i h1 j l, k, bW, dP], h _ (c.store a)⟩)
def mo (dd : Bool) (P : Program) (f : FuncId) (args : List Value) (w : World) (v : Value) : Prop := Calls P f args.toArray w fun e a => e = .returned v ∧ Ex dd w a
theorem QY {f : FuncId} {fv : Operand} {ax : Array Operand} {ats : Array TypeId} {caps args : Array Value} (a : lY E fv = .func (.func f) #[] caps) (he : ∀ args w, (callFunc f args).run P w = .ok (.enter f args) w) (ha : ax.map (lY E) ++ caps = args) :
  (execOp (lY E) ⟨d, .call ⟨.value fv, ax, ats⟩, ty, pos, af, g⟩).run P W = .ok (.enter f args) W := by
 show (do let d ← resolve (lY E) ⟨.value fv, ax, ats⟩ ty; invoke d.target d.args : Sem Next).run P W = _
 rw [← ha]
 simp only [resolve, a, Deferred.ofValue, cN, dP, bW, invoke]
 simp [he]
theorem HV {K : Value → World → Prop} {f : FuncId} {fv : Operand} {ax : Array Operand} {ats : Array TypeId} {caps args : Array Value} (a : lY E fv = .func (.func f) #[] caps) (he : ∀ args w, (callFunc f args).run P w = .ok (.enter f args) w) (ha : ax.map (lY E) ++ caps = args) (h : Calls P f args W fun e b => ∃ v, e = .returned v ∧ K v b) : pv P E ⟨d, .call ⟨.value fv, ax, ats⟩, ty, pos, af, g⟩ W K :=
 .inr (.inr ⟨f, args, QY a he ha, h⟩)
theorem OL {K : Value → World → Prop} {f : FuncId} {fv : Operand} {ax : Array Operand} {ats : Array TypeId} {args : List Value} {v : Value} (a : ST dd F w W μ L) (i : lY E fv = .func (.func f) #[] #[]) (he : ∀ args w, (callFunc f args).run P w = .ok (.enter f args) w) (ha : (ax.map (lY E) ++ (#[] : Array Value)) = args.toArray) (c : mo dd P f args W v) (h : ∀ W', ST dd F w W' μ L → K v W') : pv P E ⟨d, .call ⟨.value fv, ax, ats⟩, ty, pos, af, g⟩ W K :=
 HV i he ha (dW c (fun _ _ ⟨h1, b⟩ => ⟨v, h1, h _ (a.JI b)⟩))
def mw {α : Type} (e : TypeId) (enc : α → List Value) (k : Nat) (v : Value) (l : List α) (R : List (Nat × Obj)) : Prop :=
 (v = .slice none 0 0 ∧ l = [] ∧ R = []) ∨
 ∃ g cap a, v = .slice (some ⟨g, 0, none⟩) l.length cap ∧ R = [(g, .cells a e (0, 0))] ∧ l.length ≤ cap ∧ cap ≤ maxLen ∧ a.size = cap * k ∧ a.toList.take (l.length * k) = (l.map enc).flatten
theorem sJ {α : Type} {enc : α → List Value} {k : Nat} (hk : ∀ x, (enc x).length = k) : ∀ l : List α, (l.map enc).flatten.length = l.length * k
 | [] => by simp
 | x :: l => by simp [sJ hk l, hk x, cU, Nat.add_comm]
theorem zH {α : Type} {enc : α → List Value} {k : Nat} (hk : ∀ x, (enc x).length = k) : ∀ (l : List α) (i : Nat) (x : α), l[i]? = some x → ∀ j y, (enc x)[j]? = some y → (l.map enc).flatten[i * k + j]? = some y
 | [], i, x, h => by cases h
 | z :: l, 0, x, h => by
  simp at h; subst h
  intro j y a
  have b : j < (enc z).length := (bN.1 a).1
  simp [iK, b]
  rw [dF b] at a
  simpa using a
 | z :: l, i + 1, x, h => by
  intro j y a
  have := zH hk l i x (by simpa using h) j y a
  simp only [bM, bV]
  rw [gG (by rw [hk z]; have := Nat.le_mul_of_pos_left k (Nat.succ_pos i); simp [cU] at *; omega), hk z]
  rw [show (i + 1) * k + j - k = i * k + j by rw [cU]; omega]
  exact this
theorem Jf {α : Type} {enc : α → List Value} {k : Nat} (hk : ∀ x, (enc x).length = k) : ∀ (l : List α) (q : Nat) (y : Value), (l.map enc).flatten[q]? = some y → ∃ i x j, l[i]? = some x ∧ (enc x)[j]? = some y ∧ q = i * k + j
 | [], q, y, h => by simp at h
 | z :: l, q, y, h => by
  simp only [bM, bV] at h
  by_cases b : q < k
  ·rw [iU (by rw [hk]; exact b)] at h
   exact ⟨0, z, q, rfl, h, by simp⟩
  ·rw [gG (by rw [hk]; omega), hk] at h
   obtain ⟨i, x, j, h1, a, c⟩ := Jf hk l (q - k) y h
   exact ⟨i + 1, x, j, by simpa using h1, a, by rw [cU]; omega⟩
theorem mw.nil {α : Type} (e : TypeId) (enc : α → List Value) (k : Nat) : mw e enc k (.slice none 0 0) [] [] := .inl ⟨rfl, rfl, rfl⟩
theorem mw.sl {α : Type} {e : TypeId} {enc : α → List Value} {k : Nat} {v : Value} {l : List α} {R : List (Nat × Obj)} {m : mN} (h : mw e enc k v l R) (hk : ∀ x, (enc x).length = k) (hm : ∀ b o, (b, o) ∈ R → m b = some o) : Sl (Pl enc) k m v l := by
 rcases h with ⟨rfl, rfl, rfl⟩ | ⟨g, cap, a, rfl, rfl, h1, d, s, n⟩
 ·exact Sl.nil _ _ _
 ·refine ⟨_, cap, rfl, h1, d, fun _ => ⟨g, 0, a, e, (0, 0), rfl, hm _ _ (by simp), fun i x q => ⟨enc x, hk x, rfl, fun j y r => ?_⟩⟩⟩
  have := zH hk l i x q j y r
  rw [← n] at this
  have c : i * k + j < l.length * k := by
   have := (bN.1 this).1
   simp at this; omega
  rw [eT c] at this
  simpa using this
theorem mw.len {α : Type} {e : TypeId} {enc : α → List Value} {k : Nat} {v : Value} {l : List α} {R : List (Nat × Obj)} (h : mw e enc k v l R) : l.length ≤ 9223372036854775807 := by
 rcases h with ⟨rfl, rfl, rfl⟩ | ⟨g, cap, a, rfl, rfl, h1, b, c, d⟩
 ·simp
 ·unfold maxLen at b; omega
theorem mw.fr {α : Type} {e : TypeId} {enc : α → List Value} {k : Nat} {v : Value} {l : List α} {R X Y : List (Nat × Obj)} (h : mw e enc k v l R) (a : ST dd mD w W μ (X ++ (R ++ Y))) : Fr w.heap.size v := by
 rcases h with ⟨rfl, rfl, rfl⟩ | ⟨g, cap, d, rfl, rfl, h1, i, j, m⟩
 ·exact Fr.nil _
 ·intro b c
  simp [Value.ownBlock] at c
  subst c
  rcases (a.box g _ (by simp; exact .inr (.inl rfl))).2.2 with h | h
  ·exact h
  ·exact h.elim
theorem mw.lit {α : Type} {e : TypeId} {enc : α → List Value} {k b m : Nat} {l : List α} {cs : Array Value} (hm : l.length = m) (c : m ≤ maxLen) (d : cs.toList = (l.map enc).flatten) (a : cs.size = m * k) : mw e enc k (.slice (some ⟨b, 0, none⟩) m m) l [(b, .cells cs e (0, 0))] := by
 subst hm
 refine .inr ⟨b, _, cs, rfl, rfl, bA _, c, a, ?_⟩
 rw [← d, ← a]
 exact cZ (by rw [dJ]; exact bA _)
def oH {α : Type} (a : Nat) (l m : List α) : Option (List α) := if (l.length + m.length) * a ≤ 140737488355328 ∧ l.length + m.length ≤ maxLen then some (l ++ m) else none
theorem M4 {K : Value → World → Prop} {α : Type} {e t : TypeId} {enc : α → List Value} {k ab : Nat} {z v vs : Value} {l m r : List α} {R : List (Nat × Obj)} (X : List (Nat × Obj)) {Y : List (Nat × Obj)} {x y : Operand} {i : TypeInfo} (s : ST dd F w W μ (X ++ (R ++ Y))) (hk : ∀ x, (enc x).length = k) (b3 : 0 < k) (h1 : ∀ x, ∀ u ∈ enc x, u.oneCell' = true) (ht : P.underlying t = some (.slice e)) (hi : P.info? e = some i) (hz : i.zero = some z) (b7 : z.cells.size = k) (b4 : i.size = k) (b1 : i.bytes = ab) (hx : lY E x = v) (hy : lY E y = vs) (hR : mw e enc k v l R) (hs : Sl (Pl enc) k (hp W) vs m) (n : oH ab l m = some r) (h : ∀ W' v' R', ST dd F w W' μ (X ++ (R' ++ Y)) → mw e enc k v' r R' → K v' W') : pv P E ⟨d, .call ⟨.builtin .append, #[x, y], #[t, t]⟩, ty, pos, af, g⟩ W K := by
 unfold oH at n
 split at n
 case isFalse => cases n
 rename_i aj
 cases n
 have aa : ∀ (V : Value) (W' : World), (Builtin.append_ #[t, t] ty #[v, vs]).run P W = .ok V W' → (execOp (lY E) ⟨d, .call ⟨.builtin .append, #[x, y], #[t, t]⟩, ty, pos, af, g⟩).run P W = .ok (.value V) W' := by
  intro V W' hV
  show (do let d ← resolve (lY E) ⟨.builtin .append, #[x, y], #[t, t]⟩ ty; invoke d.target d.args : Sem Next).run P W = _
  simp [resolve, invoke, builtin, hx, hy, hV]
 obtain ⟨A, c, rfl, bc, bd, b2⟩ := hs
 have a8 : W.ownsRow 0 e k v l.length (l.map enc).flatten := by
  refine ⟨sJ hk l, ?_⟩
  rcases hR with ⟨rfl, rfl, rfl⟩ | ⟨g, cap, J, rfl, rfl, h1, h2, h3, h4⟩
  ·exact .inl ⟨rfl, rfl⟩
  ·exact .inr ⟨g, cap, J, rfl, fO _, (s.box g _ (by simp)).1, h1, h2, h3, h4⟩
 have av : m.length = 0 ∨ ∃ ad, A = some ad ∧ ∀ j u, (m.map enc).flatten[j]? = some u → W.cell? (ad.add j) = some u := by
  rcases fJ m.length with O | O
  ·exact .inl O
  ·obtain ⟨b, off, cs, T, fr, rfl, h6, h7⟩ := b2 O
   refine .inr ⟨⟨b, off, none⟩, rfl, fun j u hu => ?_⟩
   obtain ⟨i, x, q, h8, h9, rfl⟩ := Jf hk m j u hu
   obtain ⟨ys, _, ay, az⟩ := h7 i x h8
   cases ay
   rw [eE, jg W b (off + (i * k + q)) cs T fr h6, ← fL]
   exact az q u h9
 have au : ∀ u ∈ (m.map enc).flatten, u.oneCell' = true := by
  intro u hu
  obtain ⟨ys, b6, b5⟩ := la.1 hu
  obtain ⟨x, _, rfl⟩ := bJ.1 b6
  exact h1 x u b5
 by_cases ap : m.length = 0
 ·have hm : m = [] := aW ap
  subst hm
  have hr : (Builtin.append_ #[t, t] ty #[v, .slice A 0 c]).run P W = .ok v W := by
   rcases a8.2 with ⟨rfl, O⟩ | ⟨g, cap, J, rfl, _, hg, aq, _, bf, _⟩
   ·cases A with
    | none => simp [Builtin.append_, aX ht, sizeOf, typeInfo, hi, Builtin.lenOf, Builtin.firstCells]
    | some ad => simp [Builtin.append_, aX ht, sizeOf, typeInfo, hi, Builtin.lenOf, Builtin.firstCells, loadCells, loadCellsFrom]
   ·cases A with
    | none => simp [Builtin.append_, aX ht, sizeOf, typeInfo, hi, Builtin.lenOf, Builtin.firstCells, aq, storeCells]
    | some ad => simp [Builtin.append_, aX ht, sizeOf, typeInfo, hi, Builtin.lenOf, Builtin.firstCells, loadCells, loadCellsFrom, aq, storeCells]
  exact .inl ⟨v, W, aa _ _ (by simpa using hr), by simpa using h W v R s (by simpa using hR)⟩
 rcases av with O | ⟨ad, rfl, a1⟩
 ·exact absurd O ap
 obtain ⟨v', W', hr, ah, D, ba, M⟩ := run_append_own_at (P := P) W 0 t ty e i z k ab ht hi hz b4 b1 b7 b3 v l.length (l.map enc).flatten a8 ad m.length c (m.map enc).flatten (sJ hk m) a1 au aj.2 aj.1 (fO _)
 have ae := qF _ _ _ _ hr
 refine .inl ⟨v', W', aa _ _ hr, ?_⟩
 have hlen : (l ++ m).length = l.length + m.length := by simp
 rcases ah.2 with ⟨_, O⟩ | ⟨U, a6, a7, rfl, _, ag, b9, ak, an, aw⟩
 ·omega
 have ai : mw e enc k (.slice (some ⟨U, 0, none⟩) (l.length + m.length) a6) (l ++ m) [(U, .cells a7 e (0, 0))] :=
  .inr ⟨U, a6, a7, by rw [hlen], rfl, by omega, ak, an, by rw [hlen, aw]; simp⟩
 refine h W' _ _ ?_ ai
 have ar := s.nd
 rcases hR with ⟨rfl, rfl, rfl⟩ | ⟨g, cap, J, rfl, rfl, q1, q2, q3, q4⟩
 ·-- nil: a new block
  have Z : W.heap.size ≤ U := by
   rcases M with h | h <;> simp [Value.ownBlock] at h
   omega
  have hex : Ex dd W W' := ⟨D.os, D.tape, D.output, wC.of ae, D.size, fun b n => D.block b n (by simp [Value.ownBlock])⟩
  have h1 := s.JI hex
  refine ⟨h1.os, h1.tape, h1.output, h1.drawn, h1.size, h1.oG, h1.mem, fun b o n => ?_, ?_⟩
  ·simp only [aQ, bP] at n
   rcases n with n | n | n
   ·exact h1.box b o (by simp [n])
   ·cases n
    refine ⟨ag, ?_, .inl (dO s.size Z)⟩
    cases hm : μ U with
    | none => rfl
    | some x => have := s.FT hm; omega
   ·exact h1.box b o (by simp [n])
  ·simp only [bK, cM, bM, iC] at ar ⊢
   refine (iX gD).2 (dT.2 ⟨fun hm => ?_, ar⟩)
   rw [← cM] at hm
   obtain ⟨⟨b, o⟩, n, L⟩ := bJ.1 hm
   have b0 : (b, o) ∈ X ++ ([] ++ Y) := by simpa using n
   have := s.GV b0
   simp at L
   omega
 ·by_cases ao : U = g
  ·subst ao
   have O : ST dd F w W μ (X ++ (U, Obj.cells J e (0, 0)) :: Y) := by simpa using s
   have hold : ∀ b, b < W.heap.size → b ≠ U → W'.heap[b]? = W.heap[b]? := fun b n I => D.block b n (by simp [Value.ownBlock]; exact I)
   have G := O.nd
   simp only [cM, bM] at G
   have I : ∀ b o, (b, o) ∈ X ++ Y → b ≠ U := fun b o n L => by
    subst L
    rcases aQ.1 n with n | n
    ·exact (cA.1 G).2.2 b (bJ.2 ⟨_, n, rfl⟩) b (by simp) rfl
    ·exact (dT.1 (cA.1 G).2.1).1 (bJ.2 ⟨_, n, rfl⟩)
   have Q := O.box U (Obj.cells J e (0, 0)) (by simp)
   refine ⟨D.os.trans s.os, D.tape.trans s.tape, D.output.trans s.output, wC.trans s.drawn (wC.of ae), dO s.size D.size, fun b n hF => ?_, fun b o n => ?_, fun b o n => ?_, by simpa using G⟩
   ·rw [hold b (eZ n s.size) (fun L => by subst L; rcases Q.2.2 with h | h; omega; exact hF h)]
    exact s.oG b n hF
   ·rw [hold b (s.FT n) (fun L => by subst L; rw [Q.2.1] at n; cases n)]
    exact s.mem b o n
   ·simp only [aQ, bP] at n
    rcases n with n | n | n
    ·obtain ⟨r1, r2⟩ := s.box b o (by simp [n])
     exact ⟨by rw [hold b (qj r1) (I b o (by simp [n]))]; exact r1, r2⟩
    ·cases n; exact ⟨ag, Q.2⟩
    ·obtain ⟨r1, r2⟩ := s.box b o (by simp [n])
     exact ⟨by rw [hold b (qj r1) (I b o (by simp [n]))]; exact r1, r2⟩
  ·have Z : W.heap.size ≤ U := by
    rcases M with h | h <;> simp [Value.ownBlock] at h
    ·exact absurd h ao
    ·omega
   have O : ST dd F w W μ (X ++ (g, Obj.cells J e (0, 0)) :: Y) := by simpa using s
   have Q := O.box g (Obj.cells J e (0, 0)) (by simp)
   have G := O.nd
   simp only [cM, bM] at G
   have I : ∀ b o, (b, o) ∈ X ++ Y → b ≠ g := fun b o n L => by
    subst L
    rcases aQ.1 n with n | n
    ·exact (cA.1 G).2.2 b (bJ.2 ⟨_, n, rfl⟩) b (by simp) rfl
    ·exact (dT.1 (cA.1 G).2.1).1 (bJ.2 ⟨_, n, rfl⟩)
   have hold : ∀ b, b < W.heap.size → b ≠ g → W'.heap[b]? = W.heap[b]? := fun b n I => D.block b n (by simp [Value.ownBlock]; exact I)
   refine ⟨D.os.trans s.os, D.tape.trans s.tape, D.output.trans s.output, wC.trans s.drawn (wC.of ae), dO s.size D.size, fun b n hF => ?_, fun b o n => ?_, fun b o n => ?_, ?_⟩
   ·rw [hold b (eZ n s.size) (fun L => by subst L; rcases Q.2.2 with h | h; omega; exact hF h)]
    exact s.oG b n hF
   ·rw [hold b (s.FT n) (fun L => by subst L; rw [Q.2.1] at n; cases n)]
    exact s.mem b o n
   ·simp only [aQ, bP] at n
    rcases n with n | n | n
    ·obtain ⟨r1, r2⟩ := s.box b o (by simp [n])
     exact ⟨by rw [hold b (qj r1) (I b o (by simp [n]))]; exact r1, r2⟩
    ·cases n
     refine ⟨ag, ?_, .inl (dO s.size Z)⟩
     cases hm : μ U with
     | none => rfl
     | some x => have := s.FT hm; omega
    ·obtain ⟨r1, r2⟩ := s.box b o (by simp [n])
     exact ⟨by rw [hold b (qj r1) (I b o (by simp [n]))]; exact r1, r2⟩
   ·have aE : (X.map (·.1) ++ Y.map (·.1)).Nodup := (dT.1 ((iX gD).1 G)).2
    simp only [cM, bM, iC]
    refine (iX gD).2 (dT.2 ⟨fun hm => ?_, aE⟩)
    rw [← cM] at hm
    obtain ⟨⟨b, o⟩, n, L⟩ := bJ.1 hm
    have := s.GV (b := b) (o := o) (by rcases aQ.1 n with h | h <;> simp [h])
    simp at L
    omega
end
end Go.Proofs.YtklbhegeiijbjaaGreat
namespace Go.Proofs.YtklbhegeiijbjaaGreat
open Go.RowKit
def FJ (l : List Value) : Nat → Value := fun t => l.getD t undef
def Bt (P : Program) (fn : Func) (R : Ending → World → Prop) : tF
 | .normal, E, W | .ret, E, W => ∃ v, (∀ tmps : Array Value, (∀ t, tmps.getD t undef = E t) → (results fn tmps).run P W = .ok v W) ∧ R (.returned v) W
 | _, _, _ => False
theorem Cv {P : Program} {f : FuncId} {fn : Func} {c : Code} {args : List Value} {w : World} {R : Ending → World → Prop} {n : Nat} (o : P.funcs[f]? = some fn) (m : fn.body = some c) (q : fn.ntmps = n) (ha : args.length ≤ n) (h : CW P n c (Bt P fn R) (FJ args) w) : Calls P f args.toArray w R := by
 refine calls_of_wp o m ?_
 have i : Ag n { tmps := args.toArray ++ Array.replicate (fn.ntmps - args.toArray.size) undef, defers := [] } (FJ args) := by
  refine ⟨by simp; omega, rfl, fun t => ?_⟩
  simp only [FJ, fR, List.getD_eq_getElem?_getD, Array.getElem?_append, Array.getElem?_replicate, eF, List.getElem?_toArray]
  by_cases k : t < args.length
  ·rw [aZ k]
  ·rw [aY k, iD (by omega)]
   split <;> simp
 refine wp_mono (h _ i) (fun e a r d => ?_)
 cases e with
 | normal =>
  obtain ⟨E, b, v, j, g⟩ := d
  exact ⟨b.2.1, v, j _ b.2.2, g⟩
 | ret =>
  obtain ⟨E, b, v, j, g⟩ := d
  exact ⟨b.2.1, v, j _ b.2.2, g⟩
 | exit id => obtain ⟨E, b, h⟩ := d; exact h.elim
 | goto l => obtain ⟨E, b, h⟩ := d; exact h.elim
 | panic c => exact d.elim
 | outgrown => exact d.elim
section
variable {P : Program} {fn : Func} {R : Ending → World → Prop} {E : Nat → Value} {W : World}
theorem nc {r : Tmp} {v : Value} (a : fn.results = #[.tmp r]) (c : E r = v) (h : R (.returned v) W) : Bt P fn R .ret E W :=
 ⟨v, fun tmps b => by rw [results_tmp a, b, c], h⟩
theorem G1 {r s : Tmp} {v u : Value} (b : fn.results = #[.tmp r, .tmp s]) (c : E r = v) (hu : E s = u) (h : R (.returned (.tuple #[v, u])) W) : Bt P fn R .ret E W :=
 ⟨.tuple #[v, u], fun tmps a => by rw [results_tmp2 b, a, a, c, hu], h⟩
theorem qv (a : fn.results = #[]) (h : R (.returned (.tuple #[])) W) : Bt P fn R .ret E W :=
 ⟨.tuple #[], fun tmps _ => by rw [results_none a], h⟩
theorem tj {r : Tmp} {t : TypeId} {a : Addr} {v : Value} (b : fn.results = #[.cell r t]) (g : E r = .pointer (some a)) (d : (Instr.loadAt t (.pointer (some a))).run P W = .ok v W) (h : R (.returned v) W) : Bt P fn R .ret E W :=
 ⟨v, fun tmps c => by
  have h1 : (loadVar t a).run P W = .ok v W := by simpa [Instr.loadAt, Instr.sureAddr] using d
  simp [results, b, c, g, asAddr, h1], h⟩
theorem rR (h : Bt P fn R .ret E W) : Bt P fn R .normal E W := h
end
section
variable {Q : tF} {E : Nat → Value} {W : World} {K : (Nat → Value) → World → Prop} {id j : Nat}
theorem mJ (h : Q .normal E W) : zt id Q .normal E W := h
theorem nY (h : Q .ret E W) : zt id Q .ret E W := h
theorem tE (h : Q .normal E W) : zt id Q (.exit id) E W := by simp [zt]; exact h
theorem VW (a : (j = id) = False) (h : Q (.exit j) E W) : zt id Q (.exit j) E W := by simp only [zt, a, aN]; exact h
theorem lU (h : K E W) : tC K Q .normal E W := h
theorem mL (h : Q .ret E W) : tC K Q .ret E W := h
theorem oR (h : Q (.exit j) E W) : tC K Q (.exit j) E W := h
end
theorem Q4 {i N : Nat} (b : i < N) (a : N ≤ 9223372036854775807) : IntKind.i64.wrap ((i : Int) + 1) = ((i + 1 : Nat) : Int) := by
 rw [IntWalk.i64_in _ (by omega)]
 omega
theorem mM {P : Program} {n : Nat} {Q : tF} {E : Nat → Value} {W : World} {g s U Y o q A u : Nat} {t1 t2 t3 t4 t5 t6 t7 : TypeId} {O R T : String} {f1 f2 f3 : Array Edge} {body : Code} (I : Nat → (Nat → Value) → World → Prop) (N : Nat) (J : N ≤ 9223372036854775807) (D : I 0 E W) (L : o < n) (M : u < n) (z : q < n) (G : ∀ i E W, I i E W → E q = .int .i64 (i : Nat) ∧ E A = .int .i64 (N : Nat)) (round : ∀ i E W, i < N → I i E W → CW P n (.block s body) (tC (fun E' W' => E' q = .int .i64 (i : Nat) ∧ I (i + 1) (qh (qh E' u (.int .i64 ((i + 1 : Nat) : Int))) q (.int .i64 ((i + 1 : Nat) : Int))) W') (zt g Q)) (qh E o (.bool true)) W) (done : ∀ E W, I N E W → Q .normal (qh E o (.bool false)) W) :
  CW P n (.block g (.loop (.seq (.region U #[⟨some o, .binOp .lss t1 (.tmp q) (.tmp A) t2, t3, O, f1, none⟩] false)
   (.seq (.cond (.tmp o) .skip (.exit g)) (.seq (.block s body)
    (.region Y #[⟨some u, .binOp .add t4 (.tmp q) (.const (.int .i64 1)) t5, t6, R, f2, none⟩, ⟨some q, .move (.tmp u), t7, T, f3, none⟩] false)))))) Q E W := by
 refine nL (pn (fun m E W => ∃ i, i ≤ N ∧ m = N - i ∧ I i E W) N ⟨0, fO _, by omega, D⟩ ?_)
 rintro m E W ⟨i, Z, rfl, d⟩
 obtain ⟨w, x⟩ := G i E W d
 refine mf (ma (KV (.inl rfl) rfl L (mP w x rfl) (mz ?_)))
 refine lU (mf ?_)
 have t : qh E o (.bool (decide ((i : Int) < (N : Int)))) o = .bool (decide ((i : Int) < (N : Int))) := by simp [qh]
 by_cases r : i < N
 ·have y : decide ((i : Int) < (N : Int)) = true := by simp; omega
  rw [y] at t ⊢
  refine vX t (nf (lU (mf ?_)))
  refine KG (round i E W r d) (fun e E' W' h => ?_)
  cases e with
  | normal =>
   obtain ⟨h1, F⟩ := h
   refine lU ?_
   have hw : IntKind.i64.wrap ((i : Int) + 1) = ((i + 1 : Nat) : Int) := Q4 r J
   refine ma (KV (v := .int .i64 ((i + 1 : Nat) : Int)) (.inl rfl) rfl M (mP (k := .i64) (a := (i : Int)) (b := 1) h1 rfl (by simp only [Mw, hw])) ?_)
   refine KV (v := .int .i64 ((i + 1 : Nat) : Int)) (.inl rfl) rfl z (lP (by simp [lY, qh])) (mz ?_)
   exact lU ⟨N - (i + 1), by omega, i + 1, by omega, rfl, F⟩
  | exit j => exact h
  | goto l => exact h
  | ret => exact h
  | panic c => exact h
  | outgrown => exact h
 ·have y : decide ((i : Int) < (N : Int)) = false := by simp; omega
  rw [y] at t ⊢
  obtain rfl : i = N := by omega
  refine qx t (pk (oR (oR (tE ?_))))
  exact done E W d
theorem Rh {P : Program} {n : Nat} {x : Code} {Q : tF} {K : (Nat → Value) → World → Prop} {E : Nat → Value} {W : World} (J : (Nat → Value) → World → Prop) (h : CW P n x (tC J Q) E W) (k : ∀ E W, J E W → K E W) : CW P n x (tC K Q) E W :=
 KG h (fun e E W h => by cases e <;> first | exact k E W h | exact h)
theorem Vk {α : Type} {c : Bool} {x y r : α} (a : c = true) (h : (if c = true then x else y) = r) : x = r := by rw [aZ a] at h; exact h
theorem Vp {α : Type} {c : Bool} {x y r : α} (a : c = false) (h : (if c = true then x else y) = r) : y = r := by rw [aY (by rw [a]; decide)] at h; exact h
theorem bind_some {α β : Type} {o : Option α} {f : α → Option β} {r : β} (h : o.bind f = some r) : ∃ y, o = some y ∧ f y = some r := by
 cases o with
 | none => cases h
 | some y => exact ⟨y, rfl, h⟩
theorem Qc (b : Bool) : b = true ∨ b = false := by cases b <;> simp
theorem mE {α : Type} {l : List α} {i : Nat} (h : i < l.length) : ∃ x xs, l.drop i = x :: xs ∧ l[i]? = some x ∧ l.drop (i + 1) = xs := by
 cases a : l.drop i with
 | nil => have := bB List.length a; simp at this; omega
 | cons x xs => exact ⟨x, xs, rfl, by rw [← List.head?_drop, a]; rfl, by rw [← List.drop_drop, a]; rfl⟩
theorem G5 {P : Program} {W : World} (d : Nat) (xs ys : Array Value) : (Op.eqFields d xs ys []).run P W = .ok true W := by simp [Op.eqFields]
theorem um {P : Program} {W : World} {d : Nat} {xs ys : Array Value} {f : Field} {c : List Field} {a b : Value} {r s : Bool} (i : f.name ≠ "_") (ha : (part f.type xs f.offset).run P W = .ok a W) (g : (part f.type ys f.offset).run P W = .ok b W) (he : (Op.equalIn d f.type a b).run P W = .ok r W) (h : (Op.eqFields d xs ys c).run P W = .ok s W) : (Op.eqFields d xs ys (f :: c)).run P W = .ok (r && s) W := by
 simp only [Op.eqFields, ne_eq, i, not_false_eq_true, aU, cN, ha, g, he, bW]
 cases r <;> simp [h]
theorem yu {P : Program} {W : World} {t : TypeId} {k : Nat} {cs : Array Value} {off : Nat} {v : Array Value} (a : ∀ w, (isAgg t).run P w = .ok true w) (b : ∀ w, (sizeOf t).run P w = .ok k w) (c : cs.extract off (off + k) = v) : (part t cs off).run P W = .ok (.agg v) W := by
 simp [part, a W, b W, c]
theorem pZ {P : Program} {W : World} {t : TypeId} {cs : Array Value} {off : Nat} {v : Value} (a : ∀ w, (isAgg t).run P w = .ok false w) (b : cs[off]? = some v) : (part t cs off).run P W = .ok v W := by
 simp [part, a W, b]
def np (a b : ByteArray) : Bool := a.toList == b.toList
theorem Tu {P : Program} {t : TypeId} (c : P.underlying t = some .string) (d : Nat) (a b : ByteArray) (W : World) : (Op.equalIn (d + 1) t (.string a) (.string b)).run P W = .ok (np a b) W := run_equalIn_string W d t a b c
theorem XR {P : Program} {t : TypeId} {k : IntKind} (c : P.underlying t = some (.int k)) (d : Nat) (a b : Int) (W : World) : (Op.equalIn (d + 1) t (.int k a) (.int k b)).run P W = .ok (a == b) W := run_equalIn_int W d t k k a b c
theorem oI {P : Program} {op : BinOp} {t : TypeId} {x y : Operand} {a b : Array Value} (c : P.eqGuardType P.depth t = false) (W : World) : (eqGuard op t x y (.agg a) (.agg b)).run P W = .ok () W := by
 cases op <;> simp [eqGuard] <;> (intro h; rw [c] at h; cases h)
theorem rA {P : Program} {t : TypeId} {a b : Array Value} {r : Bool} (h : ∀ W, (Op.equalIn Op.maxDepth t (.agg a) (.agg b)).run P W = .ok r W) (W : World) : (binOp .eql t (.agg a) (.agg b)).run P W = .ok (.bool r) W := by
 simp [binOp, Op.equal, h W]
theorem BW {P : Program} {t : TypeId} {a b : Array Value} {r : Bool} (h : ∀ W, (Op.equalIn Op.maxDepth t (.agg a) (.agg b)).run P W = .ok r W) (W : World) : (binOp .neq t (.agg a) (.agg b)).run P W = .ok (.bool !r) W := by
 simp [binOp, Op.equal, h W]
variable {dd : Bool}
def ns (k : IntKind) (x : Int) : List Value := [.int k x]
def Vs (x : Bool) : List Value := [.bool x]
def wc (x : ByteArray) : List Value := [.string x]
theorem HO (k : IntKind) (x : Int) : ∀ u ∈ ns k x, u.oneCell' = true := by intro u hu; simp [ns] at hu; subst hu; rfl
theorem PT (x : ByteArray) : ∀ u ∈ wc x, u.oneCell' = true := by intro u hu; simp [wc] at hu; subst hu; rfl
def zS : ByteArray := ⟨#[]⟩
def tp (a b : ByteArray) : Bool := Op.bytesLess a.toList b.toList
@[irreducible] def mR : Nat := 18446744073709551616
theorem yV : mR = 18446744073709551616 := by unfold mR; rfl
def nG {α : Type} (l : List α) (i : Int) : Option α := if 0 ≤ i then l[i.toNat]? else none
theorem mF {α : Type} {l : List α} {i : Int} {x : α} (h : nG l i = some x) : 0 ≤ i := by
 unfold nG at h; split at h
 ·assumption
 ·cases h
theorem mA {α : Type} {l : List α} {i : Int} {x : α} (h : nG l i = some x) : l[i.toNat]? = some x := by
 unfold nG at h; split at h
 ·exact h
 ·cases h
theorem HT {α : Type} (l : List α) (i : Nat) : nG l (i : Int) = l[i]? := by simp [nG]
def Da (s : ByteArray) (i : Int) : Option UInt8 := if 0 ≤ i then s[i.toNat]? else none
theorem Cu {s : ByteArray} {i : Int} {x : UInt8} (h : Da s i = some x) : 0 ≤ i := by
 unfold Da at h; split at h
 ·assumption
 ·cases h
theorem F9 {s : ByteArray} {i : Int} {x : UInt8} (h : Da s i = some x) : s[i.toNat]? = some x := by
 unfold Da at h; split at h
 ·exact h
 ·cases h
section
variable {F : Nat → Prop} {w W : World} {μ : mN} {L L' : List (Nat × Obj)} {α : Type} {e : TypeId} {enc : α → List Value} {k : Nat} {v : Value} {l : List α} {R : List (Nat × Obj)}
theorem ST.at_ (h : ST dd F w W μ L) {b : Nat} {o : Obj} (a : (b, o) ∈ L) : hp W b = some o := (h.box b o a).1
theorem mw.Tw (h : mw e enc k v l R) (hk : ∀ x, (enc x).length = k) (a : ST dd F w W μ L) (b : ∀ p, p ∈ R → p ∈ L) : Sl (Pl enc) k (hp W) v l :=
 h.sl hk (fun _ _ c => a.at_ (b _ c))
theorem mw.form (h : mw e enc k v l R) : ∃ A c, v = .slice A l.length c := by
 rcases h with ⟨rfl, rfl, rfl⟩ | ⟨g, cap, a, rfl, rfl, h1, b, d, i⟩
 ·exact ⟨_, _, rfl⟩
 ·exact ⟨_, _, rfl⟩
theorem Sl.form {R : sO α} (h : Sl R k μ v l) : ∃ A c, v = .slice A l.length c := let ⟨A, c, h, _⟩ := h; ⟨A, c, h⟩
theorem mw.Lt (h : mw e enc k v l R) (c : ST dd mD w W μ L) (i : ∀ p, p ∈ R → p ∈ L) : Fr w.heap.size v := by
 rcases h with ⟨rfl, rfl, rfl⟩ | ⟨g, cap, a, rfl, rfl, h1, j, m, n⟩
 ·exact Fr.nil _
 ·intro b d
  simp [Value.ownBlock] at d
  subst d
  rcases (c.box g (.cells a e (0, 0)) (i _ (bP.2 rfl))).2.2 with h | h
  ·exact h
  ·exact h.elim
theorem Sl.lit {b m : Nat} {cs : Array Value} (hk : ∀ x, (enc x).length = k) (hm : l.length = m) (c : m ≤ maxLen) (a : cs.toList = (l.map enc).flatten) (d : μ b = some (.cells cs e (0, 0))) : Sl (Pl enc) k μ (.slice (some ⟨b, 0, none⟩) m m) l :=
 (mw.lit (e := e) (b := b) hm c a (by have := bB List.length a; rw [sJ hk, dJ, hm] at this; exact this)).sl hk (fun g o h => by simp at h; obtain ⟨rfl, rfl⟩ := h; exact d)
theorem Fr.box (h : ST dd mD w W μ L) {b m c : Nat} {o : Obj} (d : (b, o) ∈ L) : Fr w.heap.size (.slice (some ⟨b, 0, none⟩) m c) := by
 intro g a
 simp [Value.ownBlock] at a
 subst a
 rcases (h.box b o d).2.2 with h | h
 ·exact h
 ·exact h.elim
theorem ST.perm (h : ST dd F w W μ L) (hp : L.Perm L') : ST dd F w W μ L' :=
 ⟨h.os, h.tape, h.output, h.drawn, h.size, h.oG, h.mem, fun b o a => h.box b o (hp.mem_iff.2 a), (hp.map _).nodup_iff.1 h.nd⟩
theorem ST.sublist (h : ST dd F w W μ L) (a : L'.Sublist L) : ST dd F w W μ L' :=
 ⟨h.os, h.tape, h.output, h.drawn, h.size, h.oG, h.mem, fun b o c => h.box b o (a.subset c), h.nd.sublist (a.map _)⟩
end
section
variable {E : Nat → Value} {x1 x2 x3 x4 x5 x6 : Operand} {v1 v2 v3 v4 v5 v6 : Value}
theorem vc (h1 : lY E x1 = v1) : #[x1].map (lY E) ++ (#[] : Array Value) = [v1].toArray := by simp [h1]
theorem yA (h1 : lY E x1 = v1) (a : lY E x2 = v2) : #[x1, x2].map (lY E) ++ (#[] : Array Value) = [v1, v2].toArray := by simp [h1, a]
end
theorem Lv : ∀ (v : List Value) (i off : Nat) (cells : Array Value), off + i + v.length ≤ cells.size →
  (v.zipIdx i).foldl (fun cs (c, j) => cs.setIfInBounds (off + j) c) cells = (cells.toList.take (off + i) ++ v ++ cells.toList.drop (off + i + v.length)).toArray
 | [], i, off, cells, h => by simp
 | c :: v, i, off, cells, h => by
  simp only [lb, jd]
  simp only [aO] at h
  rw [Lv v (i + 1) off _ (by simp; omega)]
  have d : off + i < cells.toList.length := by simp; omega
  congr 1
  rw [Array.toList_setIfInBounds]
  apply fP
  intro j
  have g : (cells.toList.take (off + i)).length = off + i := by simp; omega
  by_cases h1 : j < off + i
  ·simp only [iK, aD, cX, jO, dJ, aO, ir, gN, eJ]
   rw [show min (off + (i + 1)) cells.size = off + (i + 1) by omega, show min (off + i) cells.size = off + i by omega]
   rw [aZ (by omega), aZ (by omega), aZ (by omega), aY (by omega), aZ (by omega), aZ (by omega), aZ (by omega)]
  ·by_cases b : j = off + i
   ·subst b
    simp [iK, ir, gN, show off + i < off + (i + 1) by omega]
    rw [aZ (by omega), aZ (by omega), aY (by omega), show off + i - min (off + i) cells.size = 0 by omega]
    rfl
   ·simp only [iK, aD, cX, jO, dJ, aO, ir, gN, eJ]
    rw [show min (off + (i + 1)) cells.size = off + (i + 1) by omega, show min (off + i) cells.size = off + i by omega]
    by_cases a : j < off + (i + 1) + v.length
    ·rw [aZ a, aY (by omega), aZ (by omega), aY (by omega)]
     rw [show j - (off + i) = (j - (off + (i + 1))) + 1 by omega]
     simp
    ·rw [aY a, aY (by omega), aY (by omega)]
     congr 1
     omega
theorem Nv {k : Nat} : ∀ (vs : List Value) (i : Nat) (pre rest : List Value), (∀ v ∈ vs, v.cells.size = k) → pre.length = i * k → rest.length = vs.length * k →
  Instr.fill (fun i => some (i * k, k)) (pre ++ rest).toArray ((vs.zipIdx i).map (fun p => (p.2, p.1))) = some (pre ++ vs.flatMap (fun v => v.cells.toList)).toArray
 | [], i, pre, rest, d, hp, b => by
  have : rest = [] := by cases rest <;> simp at b ⊢
  simp [Instr.fill, this]
 | v :: vs, i, pre, rest, d, hp, b => by
  have a := d v (by simp)
  have g : v.cells.zipIdx.foldl (fun cs (c, j) => cs.setIfInBounds (i * k + j) c) (pre ++ rest).toArray = (pre ++ v.cells.toList ++ rest.drop k).toArray := by
   have := Lv v.cells.toList 0 (i * k) (pre ++ rest).toArray (by simp [hp, b, a, cU])
   rw [← Array.toList_zipIdx, Array.foldl_toList] at this
   rw [this]
   congr 1
   simp [← hp, a]
  simp only [lb, bM, Instr.fill]
  rw [aY (by simp [a, hp, b, cU]), g]
  have := Nv vs (i + 1) (pre ++ v.cells.toList) (rest.drop k) (fun u hu => d u (by simp [hu])) (by simp [hp, a, cU]) (by simp [b, cU])
  rw [this]
  simp
theorem R3 {k m : Nat} {a cs : Array Value} {b : Array (Nat × Value)} (vs : List Value) (d : b.toList = vs.zipIdx.map (fun p => (p.2, p.1))) (h : ∀ v ∈ vs, v.cells.size = k) (hm : vs.length = m) (g : a.size = m * k) (c : (vs.flatMap (fun v => v.cells.toList)).toArray = cs) : Instr.fill (fun i => some (i * k, k)) a b.toList = some cs := by
 subst hm c
 rw [d]
 have := Nv vs 0 [] a.toList h (by simp) (by simpa using g)
 simpa using this
theorem Bf {P : Program} {t e : TypeId} {m k : Nat} {z : Value} {a : Array (Nat × Value)} {cs : Array Value} (vs : List Value) (h : P.underlying t = some (.slice e)) (g : ∀ w, (sizeOf e).run P w = .ok k w) (j : ∀ w, (zeroValue e).run P w = .ok z w) (hm : m * k ≤ 16777216) (d : a.toList = vs.zipIdx.map (fun p => (p.2, p.1))) (i : ∀ v ∈ vs, v.cells.size = k) (c : vs.length = m) (b : (vs.flatMap (fun v => v.cells.toList)).toArray = cs) (W : World) :
  (Instr.buildSlice t m a).run P W = .ok (.slice (some ⟨W.heap.size, 0, none⟩) m m) (W.alloc (.cells cs e (0, 0))) :=
 Kz h g j hm (R3 vs d i c (by simp) b) W
theorem sM {E : Nat → Value}  : (#[] : Array (Nat × Operand)).map (fun (i, x) => (i, lY E x)) = #[] := by simp
theorem oE {E : Nat → Value} {x0 : Operand} {v0 : Value} {i0 : Nat} (a : lY E x0 = v0) : (#[(i0, x0)] : Array (Nat × Operand)).map (fun (i, x) => (i, lY E x)) = #[(i0, v0)] := by simp [a]
theorem qV {E : Nat → Value} {x0 x1 : Operand} {v0 v1 : Value} {i0 i1 : Nat} (a : lY E x0 = v0) (h1 : lY E x1 = v1) : (#[(i0, x0), (i1, x1)] : Array (Nat × Operand)).map (fun (i, x) => (i, lY E x)) = #[(i0, v0), (i1, v1)] := by simp [a, h1]
theorem FF {E : Nat → Value} {x0 x1 x2 : Operand} {v0 v1 v2 : Value} {i0 i1 i2 : Nat} (a : lY E x0 = v0) (h1 : lY E x1 = v1) (b : lY E x2 = v2) : (#[(i0, x0), (i1, x1), (i2, x2)] : Array (Nat × Operand)).map (fun (i, x) => (i, lY E x)) = #[(i0, v0), (i1, v1), (i2, v2)] := by simp [a, h1, b]
theorem Q0 {E : Nat → Value} {x0 x1 x2 x3 : Operand} {v0 v1 v2 v3 : Value} {i0 i1 i2 i3 : Nat} (a : lY E x0 = v0) (h1 : lY E x1 = v1) (b : lY E x2 = v2) (c : lY E x3 = v3) : (#[(i0, x0), (i1, x1), (i2, x2), (i3, x3)] : Array (Nat × Operand)).map (fun (i, x) => (i, lY E x)) = #[(i0, v0), (i1, v1), (i2, v2), (i3, v3)] := by simp [a, h1, b, c]
theorem mY {P : Program} {t : TypeId} {f off : Nat} {a : Array Field} {fd : Field} (h : P.underlying t = some (.struct a)) (c : a[f]? = some fd) {k : Nat} (g : ∀ w, (sizeOf fd.type).run P w = .ok k w) (hk : k ≠ 0) (d : fd.offset = off) : ny P t f off := by
 intro b o w
 subst d
 simp [Instr.fieldAt, aX h, c, Instr.sureAddr, fieldPlace, eE, g w, hk]
theorem Ag.JB {n : Nat} {a : Act} {E : Nat → Value} (h : Ag n a E) {ops : Array Oper} {j t : Nat} (c : (ops[j]?).bind (·.dst) = some t) (g : t < n) (i : E t = undef) : yielded ops a.tmps j = none := by
 have b := h.2.2 t
 have d : a.tmps[t]? = some (E t) := by
  rw [← b]
  simp [fR, h.1, g]
 simp [yielded, c, d, i, undef]
theorem Vq {P : Program} {n : Nat} {Q : tF} {E : Nat → Value} {W : World} {ops : Array Oper} {rest : List Oper} {o : Oper} {d j t : Nat} {want : Bool} (c : o.dst = some d) (k : d < n) (g : o.guard = some (j, want)) (i : (ops[j]?).bind (·.dst) = some t) (l : t < n) (b : E t = undef) (h : LW P n ops Q rest (qh E d undef) W) : LW P n ops Q (o :: rest) E W := fun a ha => by
 unfold wpList
 have m := ha.JB i l b
 rw [aY (by simp [Region.wanted, g, m])]
 rw [c]
 exact h _ (ha.put k _)
theorem V6 {P : Program} {n : Nat} {Q : tF} {E : Nat → Value} {W : World} {ops : Array Oper} {rest : List Oper} {A : Value → Prop} {o : Oper} {dd : Nat} (hw : ml n ops E o) (b : o.dst = some dd) (c : dd < n) (d : ∃ p, A p ∧ ∀ W, nZ P E o W p W) (h : ∀ p, A p → LW P n ops Q rest (qh E dd p) W) : LW P n ops Q (o :: rest) E W := by
 obtain ⟨p, h1, a⟩ := d
 exact KV hw b c (a W) (h p h1)
end Go.Proofs.YtklbhegeiijbjaaGreat
namespace Go.Proofs.YtklbhegeiijbjaaGreat
open Go.RowKit
variable {dd : Bool}
theorem vv {P : Program} {n : Nat} {x : Code} {Q : tF} {E : Nat → Value} {W : World} (h : CW P n x (tC (fun E W => Q .normal E W) Q) E W) : CW P n x Q E W :=
 KG h (fun e E W h => by cases e <;> exact h)
section
variable {P : Program} {n : Nat} {Q : tF} {E : Nat → Value} {W : World} {d : Option Nat} {ty : TypeId} {pos : String} {af : Array Edge} {g : Option (Nat × Bool)}
 {F : Nat → Prop} {w : World} {μ : mN} {L : List (Nat × Obj)}
def Ty (k : IntKind) (op : BinOp) (a b : Int) : Option Value :=
 match op with
 | .quo => some (.int k (k.wrap (a.tdiv b)))
 | .rem => some (.int k (a.tmod b))
 | .and => some (.int k (k.wrap (BitVec.ofInt k.bits a &&& BitVec.ofInt k.bits b).toNat))
 | .or => some (.int k (k.wrap (BitVec.ofInt k.bits a ||| BitVec.ofInt k.bits b).toNat))
 | _ => none
theorem MB {op : BinOp} {c m : TypeId} {x y : Operand} {k : IntKind} {a b : Int} {v : Value} (j : lY E x = .int k a) (l : lY E y = .int k b) (i : b ≠ 0) (h : Ty k op a b = some v) :
  nZ P E ⟨d, .binOp op c x y m, ty, pos, af, g⟩ W v W := by
 show (do let r ← (do eqGuard op c x y (lY E x) (lY E y); binOp op c (lY E x) (lY E y)); pure (.value r) : Sem Next).run P W = _
 rw [j, l]
 cases op <;> simp [Ty] at h <;> subst h <;> simp [eqGuard, binOp, Op.intDiv, Op.intBits, i]
theorem Km {c j : TypeId} {x y : Operand} {k k' : IntKind} {a b : Int} (h : lY E x = .int k a) (i : lY E y = .int k' b) (l : 0 ≤ b) :
  nZ P E ⟨d, .binOp .shr c x y j, ty, pos, af, g⟩ W (.int k (a.fdiv (2 ^ min b.toNat k.bits))) W := by
 show (do let r ← (do eqGuard .shr c x y (lY E x) (lY E y); binOp .shr c (lY E x) (lY E y)); pure (.value r) : Sem Next).run P W = _
 rw [h, i]
 simp [eqGuard, binOp, Op.shift, show ¬ b < 0 by omega]
theorem ur {s t : TypeId} {x : Operand} {k k' : IntKind} {a : Int} {u : TypeDesc} (b : P.underlying s = some u) (c : P.underlying t = some (.int k)) (h : lY E x = .int k' a) :
  nZ P E ⟨d, .convert s t x, ty, pos, af, g⟩ W (.int k (k.wrap a)) W := by
 show (do pure (.value (← convert s t (lY E x))) : Sem Next).run P W = _
 rw [h]
 simp [convert, aX b, aX c, Conv.intToInt]
theorem KI {t e : TypeId} (dd : Nat) (a : P.underlying t = some (.slice e)) (A : Option Addr) (l c : Nat) (W : World) : (Op.equalIn (dd + 1) t (.slice A l c) (.slice none 0 0)).run P W = .ok A.isNone W := by
 cases A <;> simp [Op.equalIn, aX a]
theorem Bc {a k e : TypeId} {x y : Operand} {A : Option Addr} {l c : Nat} (h : P.underlying a = some (.slice e)) (i : lY E x = .slice A l c) (j : lY E y = .slice none 0 0) :
  nZ P E ⟨d, .binOp .eql a x y k, ty, pos, af, g⟩ W (.bool A.isNone) W := by
 show (do let r ← (do eqGuard .eql a x y (lY E x) (lY E y); binOp .eql a (lY E x) (lY E y)); pure (.value r) : Sem Next).run P W = _
 rw [i, j]
 have b := KI 9999 h A l c W
 simp [eqGuard, binOp, Op.equal, show Op.maxDepth = 9999 + 1 from rfl, b]
def vU (s : ByteArray) : List Int := s.data.toList.map (fun b => (b.toNat : Int))
def FB (s : ByteArray) : Option (List Int) := if s.size ≤ maxLen then some (vU s) else none
theorem rS (s : ByteArray) : (vU s).length = s.size := by simp only [vU, dE, dJ]; rfl
theorem PZ {s : ByteArray} {cap i : Nat} {x : Int} (h : (vU s)[i]? = some x) : (bytesRow s cap)[i]? = some (.int .u8 x) := by
 have d : i < s.size := by have := (bN.1 h).1; rwa [rS] at this
 have a : i < s.data.size := d
 simp [vU] at h
 obtain ⟨b, c, rfl⟩ := h
 rw [bytesRow, Array.getElem?_append_left (by simpa using a)]
 simp [c]
theorem LR {K : Value → World → Prop} {s t e : TypeId} {x : Operand} {str : ByteArray} {l : List Int} (c : ST dd F w W μ L) (q : P.underlying s = some .string) (o : P.underlying t = some (.slice e)) (he : P.underlying e = some (.int .u8)) (m : lY E x = .string str) (a : FB str = some l) (h : ∀ W' v μ', ST dd F w W' μ' L → mx μ μ' → Lo F w μ μ' → Sl (Pl (ns .u8)) 1 μ' v l → Fr w.heap.size v → K v W') : pv P E ⟨d, .convert s t x, ty, pos, af, g⟩ W K := by
 unfold FB at a
 split at a
 case isFalse => cases a
 rename_i hm
 cases a
 have k := run_bytes_of_string (P := P) W s t e str q o he
 have h1 := c.drew.alloc (.cells (bytesRow str (grownCap W str.size 0 e)) e ((bytesRow str (grownCap W str.size 0 e)).size, (bytesRow str (grownCap W str.size 0 e)).size + 1))
 refine .inl ⟨.slice (some ⟨W.heap.size, 0, none⟩) str.size (grownCap W str.size 0 e), _, ?_, h _ _ _ (ST.KY (A := []) h1) (ST.KD (A := []) h1) (ST.Rx (A := []) h1) ?_ ?_⟩
 ·show (do pure (.value (← convert s t (lY E x))) : Sem Next).run P W = _
  rw [m]
  simp only [cN, k, bW, dP]
 ·refine ⟨_, grownCap W str.size 0 e, by rw [rS], by rw [rS]; exact grownCap_ge W str.size 0 e, kd W str.size 0 e hm, fun _ => ⟨W.heap.size, 0, bytesRow str (grownCap W str.size 0 e), e, _, rfl, aZ rfl, fun i x m => ⟨_, rfl, rfl, fun j y n => ?_⟩⟩⟩
  cases j with
  | zero => simp [ns] at n; subst n; simpa using PZ m
  | succ j => simp [ns] at n
 ·intro b a
  simp [Value.ownBlock] at a
  subst a
  exact c.size
def CM (l : List Int) : ByteArray := l.foldl (fun r n => r.push (UInt8.ofNat n.toNat)) ByteArray.empty
theorem HZ {s t e : TypeId} {x : Operand} {v : Value} {l : List Int} (z : P.underlying s = some (.slice e)) (he : P.underlying e = some (.int .u8)) (y : P.underlying t = some .string) (F : lY E x = v) (D : Sl (Pl (ns .u8)) 1 (hp W) v l) :
  nZ P E ⟨d, .convert s t x, ty, pos, af, g⟩ W (.string (CM l)) W := by
 show (do pure (.value (← convert s t (lY E x))) : Sem Next).run P W = _
 obtain ⟨A, c, rfl, G, I, q⟩ := D
 rw [F]
 simp only [cN, run_convert_bytes_string W s t e A l.length c z he y]
 rcases fJ l.length with h | h
 ·have : l = [] := fA.1 h
  subst this
  cases A with
  | none => simp [Conv.bytesToString, CM]
  | some a =>
   have r := run_bytesToString (P := P) W a 0 c [] (by simpa using kc (P := P) W a [] (by simp))
   simp only [bZ]
   rw [r]
   simp [CM]
 ·obtain ⟨b, off, cs, T, fr, rfl, u, w⟩ := q h
  have o := kc (P := P) W ⟨b, off, none⟩ (l.map (Value.int .u8)) (fun j v n => by
   simp at n
   obtain ⟨x, k, rfl⟩ := n
   obtain ⟨ys, _, m, i⟩ := w j x k
   cases m
   rw [eE, jg W b (off + j) cs T fr u]
   have := i 0 (.int .u8 x) rfl
   simpa using this)
  simp only [dE] at o
  rw [run_bytesToString W _ l.length c l o]
  simp [CM]
end
end Go.Proofs.YtklbhegeiijbjaaGreat
namespace Go.Proofs.YtklbhegeiijbjaaGreat
open Go.RowKit
variable {dd : Bool}
def keys (L : List (Nat × Obj)) : Nat → Prop := fun b => ∃ o, (b, o) ∈ L
structure XK (dd : Bool) (F : Nat → Prop) (w W : World) : Prop where
 os : W.os = w.os
 tape : W.tape = w.tape
 output : W.output = w.output
 drawn : wC dd w.drawn W.drawn
 size : w.heap.size ≤ W.heap.size
 oG : ∀ b, b < w.heap.size → ¬ F b → W.heap[b]? = w.heap[b]?
def Ht (L : List (Nat × Obj)) (W : World) : Prop := ∀ b o, (b, o) ∈ L → W.heap[b]? = some o
structure wZ (dd : Bool) (L0 L1 : List (Nat × Obj)) (w w' : World) : Prop where
 ex : XK dd (keys L0) w w'
 held : ∀ b o, (b, o) ∈ L1 → w'.heap[b]? = some o ∧ (w.heap.size ≤ b ∨ keys L0 b)
 nd : (L1.map (·.1)).Nodup
open Classical in
noncomputable def wW (w : World) (L : List (Nat × Obj)) : mN := fun b => if keys L b then none else w.heap[b]?
open Classical in
noncomputable def Ew (μ : mN) (W W' : World) (L1 : List (Nat × Obj)) : mN := fun b => if b < W.heap.size then μ b else if keys L1 b then none else W'.heap[b]?
section
variable {F : Nat → Prop} {w W W' : World} {μ μ' : mN} {L L0 L1 : List (Nat × Obj)}
theorem ST.VI (a : Ht L0 w) (c : (L0.map (·.1)).Nodup) : ST dd (keys L0) w w (wW w L0) L0 :=
 ⟨rfl, rfl, rfl, wC.of (bA _), bA _, fun _ _ _ => rfl, fun b o h => by
  unfold wW at h; split at h
  ·cases h
  ·exact h, fun b o h => ⟨a b o h, by unfold wW; rw [aZ ⟨o, h⟩], .inr ⟨o, h⟩⟩, c⟩
theorem HW {A B : List (Nat × Obj)} (h : ((A ++ B).map (·.1)).Nodup) {b : Nat} {o : Obj} (a : (b, o) ∈ B) : ¬ keys A b := by
 rintro ⟨d, c⟩
 rw [cM] at h
 exact (cA.1 h).2.2 b (bJ.2 ⟨_, c, rfl⟩) b (bJ.2 ⟨_, a, rfl⟩) rfl
theorem ST.back (h : ST dd F w W μ (L0 ++ L)) (j : wZ dd L0 L1 W W') : ST dd F w W' (Ew μ W W' L1) (L1 ++ L) := by
 have hk : ∀ b, keys L0 b → b < W.heap.size ∧ μ b = none ∧ (w.heap.size ≤ b ∨ F b) := fun b ⟨o, d⟩ => by
  obtain ⟨h1, g, m⟩ := h.box b o (cK _ d)
  exact ⟨qj h1, g, m⟩
 refine ⟨j.ex.os.trans h.os, j.ex.tape.trans h.tape, j.ex.output.trans h.output, wC.trans h.drawn j.ex.drawn, dO h.size j.ex.size, fun b i n => ?_, fun b o d => ?_, fun b o d => ?_, ?_⟩
 ·rw [j.ex.oG b (eZ i h.size) (fun k => by
   rcases (hk b k).2.2 with h | h
   ·omega
   ·exact n h)]
  exact h.oG b i n
 ·unfold Ew at d
  split at d
  ·rename_i i
   rw [j.ex.oG b i (fun k => by rw [(hk b k).2.1] at d; cases d)]
   exact h.mem b o d
  ·split at d
   ·cases d
   ·exact d
 ·rcases aQ.1 d with d | d
  ·obtain ⟨h1, g⟩ := j.held b o d
   refine ⟨h1, ?_, ?_⟩
   ·unfold Ew
    split
    ·rename_i i
     rcases g with g | g
     ·omega
     ·exact (hk b g).2.1
    ·rw [aZ ⟨o, d⟩]
   ·rcases g with g | g
    ·exact .inl (dO h.size g)
    ·exact (hk b g).2.2
  ·obtain ⟨h1, g, m⟩ := h.box b o (dZ _ d)
   refine ⟨?_, ?_, m⟩
   ·rw [j.ex.oG b (qj h1) (HW h.nd d)]; exact h1
   ·unfold Ew; rw [aZ (qj h1)]; exact g
 ·rw [cM]
  have r : (L.map (·.1)).Nodup := by have := h.nd; rw [cM] at this; exact (cA.1 this).2.1
  refine cA.2 ⟨j.nd, r, fun a ha c s e => ?_⟩
  subst e
  obtain ⟨⟨b, o⟩, d, rfl⟩ := bJ.1 ha
  obtain ⟨⟨q, t⟩, l, e⟩ := bJ.1 s
  simp at e; subst e
  have i := h.GV (dZ _ l)
  rcases (j.held q o d).2 with g | g
  ·omega
  ·exact HW h.nd l g
theorem ST.NF (h : ST dd F w W μ L) (W' : World) (L1 : List (Nat × Obj)) : Lo F w μ (Ew μ W W' L1) := fun b a _ => aZ (eZ a h.size)
theorem ST.Lq (h : ST dd F w W μ L) (W' : World) (L1 : List (Nat × Obj)) : mx μ (Ew μ W W' L1) := fun b o a => by
 unfold Ew; rw [aZ (h.FT a)]; exact a
theorem ST.nt (h : ST dd F w W μ L) (c : ∀ p, p ∈ L0 → p ∈ L) : mx μ (wW W L0) := fun b o a => by
 unfold wW
 rw [aY]
 ·exact h.mem b o a
 ·rintro ⟨g, d⟩
  rw [(h.box b g (c _ d)).2.1] at a
  cases a
theorem wZ.My (h : Ex dd w W) (c : ∀ b o, (b, o) ∈ L1 → W.heap[b]? = some o ∧ w.heap.size ≤ b) (d : (L1.map (·.1)).Nodup) : wZ dd [] L1 w W :=
 ⟨⟨h.os, h.tape, h.output, h.drawn, h.size, fun b a _ => h.oG b a⟩, fun b o a => ⟨(c b o a).1, .inl (c b o a).2⟩, d⟩
end
def nJ (dd : Bool) (P : Program) (f : FuncId) (args : List Value) (w : World) (L0 : List (Nat × Obj)) (K : Value → List (Nat × Obj) → World → Prop) : Prop :=
 Calls P f args.toArray w fun e a => ∃ v L1, e = .returned v ∧ wZ dd L0 L1 w a ∧ K v L1 a
def nq (dd : Bool) {α : Type} (P : Program) (f : FuncId) (args : List Value) (w : World) (e : TypeId) (enc : α → List Value) (k : Nat) (l : List α) : Prop :=
 nJ dd P f args w [] fun v R _ => mw e enc k v l R
theorem wZ.nz {L0 L1 : List (Nat × Obj)} {w a : World} (h : wZ true L0 L1 w a) : wZ dd L0 L1 w a := ⟨⟨h.ex.os, h.ex.tape, h.ex.output, wC.of (h.ex.drawn rfl), h.ex.size, h.ex.oG⟩, h.held, h.nd⟩
theorem mo.nz {P : Program} {f : FuncId} {args : List Value} {w : World} {v : Value} (h : mo true P f args w v) : mo dd P f args w v := dW h fun _ _ h => ⟨h.1, h.2.nz⟩
theorem nJ.nz {P : Program} {f : FuncId} {args : List Value} {w : World} {L0 : List (Nat × Obj)} {K : Value → List (Nat × Obj) → World → Prop} (h : nJ true P f args w L0 K) : nJ dd P f args w L0 K := dW h fun _ _ ⟨v, L1, h1, a, b⟩ => ⟨v, L1, h1, a.nz, b⟩
theorem nq.nz {α : Type} {P : Program} {f : FuncId} {args : List Value} {w : World} {e : TypeId} {enc : α → List Value} {k : Nat} {l : List α} (h : nq true P f args w e enc k l) : nq dd P f args w e enc k l := nJ.nz h
section
variable {P : Program} {E : Nat → Value} {W : World} {d : Option Nat} {ty : TypeId} {pos : String} {af : Array Edge} {g : Option (Nat × Bool)}
 {F : Nat → Prop} {w : World} {μ : mN} {L : List (Nat × Obj)}
theorem Sy {K : Value → World → Prop} {K' : Value → List (Nat × Obj) → World → Prop} {f : FuncId} {fv : Operand} {ax : Array Operand} {ats : Array TypeId} {caps : Array Value} {args : List Value} (L0 L2 : List (Nat × Obj)) (a : ST dd F w W μ L) (b : L.Perm (L0 ++ L2)) (k : lY E fv = .func (.func f) #[] caps) (he : ∀ args w, (callFunc f args).run P w = .ok (.enter f args) w) (ha : ax.map (lY E) ++ caps = args.toArray) (j : nJ dd P f args W L0 K') (h : ∀ W' v μ' L1, ST dd F w W' μ' (L1 ++ L2) → mx μ μ' → Lo F w μ μ' → K' v L1 W' → K v W') : pv P E ⟨d, .call ⟨.value fv, ax, ats⟩, ty, pos, af, g⟩ W K :=
 HV k he ha (dW j (fun _ W' ⟨v, L1, h1, c, i⟩ => ⟨v, h1, h W' v _ L1 ((a.perm b).back c) ((a.perm b).Lq W' L1) ((a.perm b).NF W' L1) i⟩))
theorem Py {K : Value → World → Prop} {α : Type} {e : TypeId} {enc : α → List Value} {k : Nat} {l : List α} {f : FuncId} {fv : Operand} {ax : Array Operand} {ats : Array TypeId} {caps : Array Value} {args : List Value} (X Y : List (Nat × Obj)) (a : ST dd F w W μ (X ++ Y)) (m : lY E fv = .func (.func f) #[] caps) (he : ∀ args w, (callFunc f args).run P w = .ok (.enter f args) w) (ha : ax.map (lY E) ++ caps = args.toArray) (j : nq dd P f args W e enc k l) (h : ∀ W' v μ' R, ST dd F w W' μ' (X ++ (R ++ Y)) → mx μ μ' → Lo F w μ μ' → mw e enc k v l R → K v W') : pv P E ⟨d, .call ⟨.value fv, ax, ats⟩, ty, pos, af, g⟩ W K :=
 Sy [] (X ++ Y) a (.refl _) m he ha j (fun W' v μ' L1 h1 b i c => h W' v μ' L1 (h1.perm (by rw [← aR, ← aR]; exact List.perm_append_comm.append_right Y)) b i c)
end
theorem ST.oa {w W : World} {μ : mN} {L R : List (Nat × Obj)} (h : ST dd mD w W μ L) (a : ∀ p, p ∈ R → p ∈ L) (d : (R.map (·.1)).Nodup) : wZ dd [] R w W :=
 wZ.My h.ex (fun b o c => ⟨(h.box b o (a _ c)).1, by
  rcases (h.box b o (a _ c)).2.2 with h | h
  ·exact h
  ·exact h.elim⟩) d
theorem oZ {P : Program} {E : Nat → Value} {W : World} {d : Option Nat} {ty : TypeId} {pos : String} {af : Array Edge} {g : Option (Nat × Bool)} {α : Type} {e' : TypeId} {enc : α → List Value} {k : Nat} {v : Value} {l : List α} {R : List (Nat × Obj)} {x : Operand} {t e : TypeId} (a : P.underlying t = some (.slice e)) (b : lY E x = v) (h : mw e' enc k v l R) : nZ P E ⟨d, .call ⟨.builtin .len, #[x], #[t]⟩, ty, pos, af, g⟩ W (.int .i64 l.length) W := by
 obtain ⟨A, c, rfl⟩ := h.form
 exact Ac a b
section
variable {α : Type} {e : TypeId} {enc : α → List Value} {k : Nat} {v : Value} {l : List α} {R : List (Nat × Obj)}
theorem mw.nd (h : mw e enc k v l R) : (R.map (·.1)).Nodup := by
 rcases h with ⟨rfl, rfl, rfl⟩ | ⟨g, cap, a, rfl, rfl, _⟩ <;> simp
end
end Go.Proofs.YtklbhegeiijbjaaGreat
namespace Go.Proofs.YtklbhegeiijbjaaGreat
open Go.RowKit
variable {dd : Bool}
def DC (R : List (Nat × Obj)) (k : Nat) (p : Value) (i : Nat) : Prop := ∃ g o, R = [(g, o)] ∧ p = .pointer (some ⟨g, i * k, none⟩)
section
variable {P : Program} {E : Nat → Value} {W : World} {d : Option Nat} {ty : TypeId} {pos : String} {af : Array Edge} {g : Option (Nat × Bool)}
 {F : Nat → Prop} {w : World} {μ : mN} {L : List (Nat × Obj)} {α : Type} {e' : TypeId} {enc : α → List Value} {k : Nat} {v : Value} {l : List α} {R : List (Nat × Obj)}
theorem oS {t e : TypeId} {x b : Operand} {u : IntKind} {i : Int} {x0 : α} (r : P.underlying t = some (.slice e)) (he : ∀ w, (sizeOf e).run P w = .ok k w) (s : lY E x = v) (o : lY E b = .int u i) (h : mw e' enc k v l R) (m : 0 ≤ i) (q : l[i.toNat]? = some x0) :
  ∃ p, DC R k p i.toNat ∧ ∀ W, nZ P E ⟨d, .indexAddr t x b, ty, pos, af, g⟩ W p W := by
 have a : i.toNat < l.length := (bN.1 q).1
 rcases h with ⟨rfl, rfl, rfl⟩ | ⟨j, cap, c, rfl, rfl, h1, y, z, A⟩
 ·simp at a
 refine ⟨.pointer (some ⟨j, i.toNat * k, none⟩), ⟨_, _, rfl, rfl⟩, fun W => ?_⟩
 show (do pure (.value (← Instr.indexAt t (lY E x) (lY E b))) : Sem Next).run P W = _
 rw [s, o]
 have n : 0 ≤ i ∧ i < (l.length : Int) := ⟨m, by omega⟩
 simp [Instr.indexAt, asIntOf, aX r, he W, n, eE]
theorem DF (h : mw e' enc k v l R) (hk : ∀ x, (enc x).length = k) {p : Value} {i : Nat} (hp : DC R k p i) {x0 : α} (m : l[i]? = some x0) :
  ∃ g a cap, R = [(g, .cells a e' (0, 0))] ∧ v = .slice (some ⟨g, 0, none⟩) l.length cap ∧ l.length ≤ cap ∧ cap ≤ maxLen ∧ a.size = cap * k ∧ a.toList.take (l.length * k) = (l.map enc).flatten ∧ p = .pointer (some ⟨g, i * k, none⟩) ∧ ∀ j y, (enc x0)[j]? = some y → a[i * k + j]? = some y := by
 have c : i < l.length := (bN.1 m).1
 rcases h with ⟨rfl, rfl, rfl⟩ | ⟨q, cap, a, rfl, rfl, h1, r, s, d⟩
 ·simp at c
 obtain ⟨g2, o, n, rfl⟩ := hp
 cases n
 refine ⟨q, a, cap, rfl, rfl, h1, r, s, d, rfl, fun j y t => ?_⟩
 have := zH hk l i x0 m j y t
 rw [← d] at this
 have b : i * k + j < l.length * k := by
  have := (bN.1 this).1
  simp at this; omega
 rw [eT b] at this
 simpa using this
theorem qp {A : List (Nat × Obj)} (hH : qc μ A W) (c : ∀ q, q ∈ R → q ∈ A) (h : mw e' enc k v l R) (hk : ∀ x, (enc x).length = k) {p : Value} {i : Nat} (hp : DC R k p i) {x0 : α} (j : l[i]? = some x0) {t : TypeId} (d : ∀ w, (isAgg t).run P w = .ok true w) (g : ∀ w, (sizeOf t).run P w = .ok k w) : (Instr.loadAt t p).run P W = .ok (.agg (enc x0).toArray) W := by
 obtain ⟨m, a, cap, rfl, rfl, _, _, _, _, rfl, b⟩ := DF h hk hp j
 exact E1 d (enc x0) (by rw [hk]; exact g) (hH.2 _ _ (c _ (bP.2 rfl))) b
theorem FL {A : List (Nat × Obj)} (hH : qc μ A W) (c : ∀ q, q ∈ R → q ∈ A) (h : mw e' enc k v l R) (hk : ∀ x, (enc x).length = k) {p : Value} {i : Nat} (hp : DC R k p i) {x0 : α} (g : l[i]? = some x0) {t : TypeId} {y : Value} (j : enc x0 = [y]) (d : ∀ w, (isAgg t).run P w = .ok false w) : (Instr.loadAt t p).run P W = .ok y W := by
 obtain ⟨m, a, cap, rfl, rfl, _, _, _, _, rfl, b⟩ := DF h hk hp g
 exact EU d (hH.2 _ _ (c _ (bP.2 rfl))) (b 0 y (by rw [j]; rfl))
theorem IG (hk : ∀ x, (enc x).length = k) : ∀ (l : List α) (i : Nat) (y : α), i < l.length → ((l.set i y).map enc).flatten = (l.map enc).flatten.take (i * k) ++ enc y ++ (l.map enc).flatten.drop (i * k + k)
 | [], i, y, h => by simp at h
 | z :: l, 0, y, h => by
  simp [hk]
 | z :: l, i + 1, y, h => by
  have := IG hk l i y (by simpa using h)
  simp only [List.set_cons_succ, bM, bV, this]
  have h1 : (i + 1) * k = (enc z).length + i * k := by rw [hk, cU]; omega
  rw [h1, jW, fL, List.drop_length_add_append]
  simp
theorem PE {K : Value → World → Prop} (X : List (Nat × Obj)) {Y : List (Nat × Obj)} {t : TypeId} {x y : Operand} {p u : Value} {i : Nat} {x0 x1 : α} (c : ST dd F w W μ (X ++ (R ++ Y))) (h : mw e' enc k v l R) (hk : ∀ x, (enc x).length = k) (h1 : ∀ x, ∀ u ∈ enc x, u.oneCell' = true) (O : lY E x = p) (Q : lY E y = u) (hu : u.cells = (enc x1).toArray) (hp : DC R k p i) (z : l[i]? = some x0) (L : ∀ w, (sizeOf t).run P w = .ok k w) (J : ∀ W' R', ST dd F w W' μ (X ++ (R' ++ Y)) → mw e' enc k v (l.set i x1) R' → K undef W') : pv P E ⟨d, .store t x y, ty, pos, af, g⟩ W K := by
 have q : i < l.length := (bN.1 z).1
 obtain ⟨m, a, cap, rfl, rfl, s, G, o, I, rfl, T⟩ := DF h hk hp z
 have hle : i * k + k ≤ cap * k := by
  have : (i + 1) * k ≤ cap * k := cR _ (by omega)
  rwa [cU, lp] at this
 have j : i * k + k ≤ l.length * k := by
  have : (i + 1) * k ≤ l.length * k := cR _ (by omega)
  rwa [cU, lp] at this
 have b : u.cells.size = k := by rw [hu]; simp [hk]
 have M := (c.box m (.cells a e' (0, 0)) (by simp)).1
 have hlen : l.length * k ≤ cap * k := cR _ s
 refine .inr (.inl ⟨W.setRow m (a.toList.take (i * k) ++ (enc x1) ++ a.toList.drop (i * k + k)).toArray, ?_, J _ [(m, .cells (a.toList.take (i * k) ++ (enc x1) ++ a.toList.drop (i * k + k)).toArray e' (0, 0))] (c.store _) (.inr ⟨m, cap, _, by simp, rfl, by simpa using s, G, ?_, ?_⟩)⟩)
 ·show (do Instr.storeAt t (lY E x) (lY E y); pure .skip : Sem Next).run P W = _
  rw [O, Q]
  have := E6 P (off := i * k) u (by rw [b]; exact L) (by rw [hu]; simpa using h1 x1) M (by rw [b, o]; exact hle)
  simp only [cN, this, bW, dP, b]
  rw [hu]
 ·show ((a.toList.take (i * k) ++ (enc x1) ++ a.toList.drop (i * k + k)).toArray).size = _
  have n : a.toList.length = cap * k := by simpa using o
  rw [eF, aD, aD, cX, jA, hk, n, dU (by omega)]; omega
 ·rw [jO, IG hk l i x1 q, ← I]
  have A : (a.toList.take (l.length * k)).take (i * k) = a.toList.take (i * k) := by rw [iL]; congr 1; omega
  have D : (a.toList.take (l.length * k)).drop (i * k + k) = (a.toList.drop (i * k + k)).take (l.length * k - (i * k + k)) := by rw [ke]
  rw [A, D]
  show List.take (l.length * k) (a.toList.take (i * k) ++ enc x1 ++ a.toList.drop (i * k + k)) = _
  have n : a.toList.length = cap * k := by simpa using o
  have r : (a.toList.take (i * k) ++ enc x1).length = i * k + k := by rw [aD, cX, hk, n, dU (by omega)]
  rw [ij, cZ (by rw [r]; exact j), r]
theorem Ep (hk : ∀ x, (enc x).length = k) : ∀ (l : List α) (i : Nat), i ≤ l.length → ((l.take i).map enc).flatten = (l.map enc).flatten.take (i * k)
 | [], i, h => by simp
 | z :: l, 0, h => by simp
 | z :: l, i + 1, h => by
  have := Ep hk l i (by simpa using h)
  simp only [List.take_succ_cons, bM, bV, this]
  rw [show (i + 1) * k = (enc z).length + i * k by rw [hk, cU]; omega, jW]
theorem xn {t e : TypeId} {x ih : Operand} {D : IntKind} {i : Int} (m : P.underlying t = some (.slice e)) (he : ∀ w, (sizeOf e).run P w = .ok k w) (n : lY E x = v) (j : lY E ih = .int D i) (h : mw e' enc k v l R) (hk : ∀ x, (enc x).length = k) (r : 0 ≤ i) (A : i ≤ l.length) :
  ∃ o, mw e' enc k o (l.take i.toNat) R ∧ ∀ W, nZ P E ⟨d, .slice t x none (some ih) none, ty, pos, af, g⟩ W o W := by
 have a : i.toNat ≤ l.length := by omega
 rcases h with ⟨rfl, rfl, rfl⟩ | ⟨c, cap, b, rfl, rfl, h1, s, u, y⟩
 ·have : i = 0 := by simp at A; omega
  subst this
  refine ⟨.slice none 0 0, .inl ⟨rfl, by simp, rfl⟩, fun W => ?_⟩
  show (do pure (.value (← Instr.sliceAt t (lY E x) none (some (lY E ih)) none)) : Sem Next).run P W = _
  rw [n, j]
  simp [Instr.sliceAt, Instr.slice, Instr.sliceBounds, Instr.sliceBound, asIntOf, aX m, he W]
 ·refine ⟨.slice (some ⟨c, 0, none⟩) (l.take i.toNat).length cap, .inr ⟨c, cap, b, rfl, rfl, by simp; omega, s, u, ?_⟩, fun W => ?_⟩
  ·have q : (l.take i.toNat).length = i.toNat := by rw [cX]; omega
   have hle : i.toNat * k ≤ l.length * k := cR _ a
   rw [q, Ep hk l i.toNat a, ← y, iL, dU hle]
  ·show (do pure (.value (← Instr.sliceAt t (lY E x) none (some (lY E ih)) none)) : Sem Next).run P W = _
   rw [n, j]
   have z : 0 ≤ i ∧ i ≤ (cap : Int) := ⟨r, by omega⟩
   simp [Instr.sliceAt, Instr.slice, Instr.sliceBounds, Instr.sliceBound, asIntOf, aX m, he W, z, eE]
   omega
theorem EV {u : sO α} {t e : TypeId} {x r : Operand} {Z : IntKind} {i : Int} (U : P.underlying t = some (.slice e)) (he : ∀ w, (sizeOf e).run P w = .ok k w) (n : lY E x = v) (M : lY E r = .int Z i) (h : Sl u k μ v l) (z : 0 ≤ i) (O : i ≤ l.length) :
  ∃ s, (Sl u k μ s (l.drop i.toNat) ∧ ∀ B, Fr B v → Fr B s) ∧ ∀ W, nZ P E ⟨d, .slice t x (some r) none none, ty, pos, af, g⟩ W s W := by
 obtain ⟨A, c, rfl, h2, h3, D⟩ := h
 have Q : i.toNat ≤ l.length := by omega
 refine ⟨.slice (if c = i.toNat then A else A.map (·.add (i.toNat * k))) (l.drop i.toNat).length (c - i.toNat), ⟨⟨_, _, rfl, by simp; omega, by omega, fun hp => ?_⟩, fun B L b m => ?_⟩, fun W => ?_⟩
 ·have R : i.toNat < l.length := by simp at hp; omega
  obtain ⟨b, off, cs, T, fr, rfl, F, G⟩ := D (by omega)
  refine ⟨b, off + i.toNat * k, cs, T, fr, ?_, F, fun j x n => ?_⟩
  ·rw [aY (by omega)]; simp [eE]
  ·rw [eJ] at n
   obtain ⟨ys, I, J, o⟩ := G _ x n
   refine ⟨ys, I, J, fun q y Y => ?_⟩
   have := o q y Y
   rw [cU] at this
   rw [show off + i.toNat * k + j * k + q = off + (i.toNat * k + j * k) + q by omega]
   exact this
 ·refine L b ?_
  cases A with
  | none => simp [Value.ownBlock] at m
  | some a =>
   split at m
   ·exact m
   ·obtain ⟨b', o', s'⟩ := a
    cases s' <;> simp [Value.ownBlock, Addr.add] at m ⊢ <;> split at m <;> exact m
 ·show (do pure (.value (← Instr.sliceAt t (lY E x) (some (lY E r)) none none)) : Sem Next).run P W = _
  rw [n, M]
  have m : 0 ≤ i ∧ i ≤ (l.length : Int) := ⟨z, O⟩
  simp [Instr.sliceAt, Instr.slice, Instr.sliceBounds, Instr.sliceBound, asIntOf, aX U, he W, m]
end
end Go.Proofs.YtklbhegeiijbjaaGreat
namespace Go.Proofs.YtklbhegeiijbjaaGreat
open Go.RowKit
variable {dd : Bool}
section
variable {α : Type} {e : TypeId} {enc : α → List Value} {k : Nat} {v : Value} {l : List α} {R : List (Nat × Obj)} {μ : mN}
theorem mw.one (h : mw e enc k v l R) : v.oneCell' = true := by obtain ⟨A, c, rfl⟩ := h.form; rfl
theorem Sl.one {a : sO α} (h : Sl a k μ v l) : v.oneCell' = true := by obtain ⟨A, c, rfl⟩ := h.form; rfl
theorem Sl.isNil {d : sO α} {n c : Nat} (h : Sl d k μ (.slice none n c) l) : l = [] := by
 obtain ⟨A, j, h1, m, o, g⟩ := h
 cases h1
 rcases fJ l.length with a | a
 ·exact fA.1 a
 ·obtain ⟨b, off, cs, T, fr, i, _⟩ := g a
  cases i
theorem mw.isNil {n c : Nat} (h : mw e enc k (.slice none n c) l R) : l = [] := by
 rcases h with ⟨h1, rfl, rfl⟩ | ⟨g, cap, a, h1, _⟩
 ·rfl
 ·cases h1
theorem ST.Ws {w W : World} {μ : mN} {L1 L2 : List (Nat × Obj)} (h : ST dd mD w W μ (L1 ++ L2)) : wZ dd [] L1 w W :=
 wZ.My h.ex (fun b o a => ⟨(h.box b o (cK _ a)).1, by
  rcases (h.box b o (cK _ a)).2.2 with h | h
  ·exact h
  ·exact h.elim⟩) (by have := h.nd; rw [cM] at this; exact (cA.1 this).1)
theorem ST.Ww {w W : World} {μ : mN} {L0 L1 L2 : List (Nat × Obj)} (h : ST dd (keys L0) w W μ (L1 ++ L2)) : wZ dd L0 L1 w W :=
 ⟨⟨h.os, h.tape, h.output, h.drawn, h.size, h.oG⟩, fun b o a => ⟨(h.box b o (cK _ a)).1, (h.box b o (cK _ a)).2.2⟩, by have := h.nd; rw [cM] at this; exact (cA.1 this).1⟩
end
end Go.Proofs.YtklbhegeiijbjaaGreat
namespace Go.Proofs.YtklbhegeiijbjaaGreat
open Go.RowKit
variable {dd : Bool}
def nE {κ β : Type} (beq : κ → κ → Bool) (l : List (κ × β)) (k : κ) : Option β := (l.find? (fun p => beq k p.1)).map (·.2)
def pu {κ β : Type} (beq : κ → κ → Bool) (l : List (κ × β)) (k : κ) (v : β) : List (κ × β) :=
 match l.findIdx? (fun p => beq k p.1) with
 | some i => l.set i (k, v)
 | none => l ++ [(k, v)]
structure xN {κ β : Type} (kenc : κ → Value) (vf : β → Value) (l : List (κ × β)) (es : Array MapEntry) (clock : Nat) : Prop where
 H4 : es.toList.map (fun e => (e.key, e.val)) = l.map (fun p => (kenc p.1, vf p.2))
 born : es.toList.Pairwise (fun a b => a.born < b.born)
 lt : ∀ e ∈ es.toList, e.born < clock
def na {κ β : Type} (kenc : κ → Value) (vf : β → Value) (v : Value) (l : List (κ × β)) (R : List (Nat × Obj)) : Prop :=
 ∃ m es clock, v = .map (some m) ∧ R = [(m, .map es clock)] ∧ xN kenc vf l es clock
def sS {κ β : Type} (kenc : κ → Value) (vf : β → Value) (μ : mN) (v : Value) (l : List (κ × β)) : Prop :=
 (v = .map none ∧ l = []) ∨ ∃ m es clock, v = .map (some m) ∧ μ m = some (.map es clock) ∧ xN kenc vf l es clock
theorem sS.mono {κ β : Type} {kenc : κ → Value} {vf : β → Value} {μ μ' : mN} {v : Value} {l : List (κ × β)} (h : sS kenc vf μ v l) (c : mx μ μ') : sS kenc vf μ' v l := by
 rcases h with h | ⟨m, es, clock, h1, a, b⟩
 ·exact .inl h
 ·exact .inr ⟨m, es, clock, h1, c _ _ a, b⟩
theorem na.at {κ β : Type} {kenc : κ → Value} {vf : β → Value} {μ : mN} {v : Value} {l : List (κ × β)} {R : List (Nat × Obj)} (h : na kenc vf v l R) (c : ∀ b o, (b, o) ∈ R → μ b = some o) : sS kenc vf μ v l := by
 obtain ⟨m, es, clock, rfl, rfl, a⟩ := h
 exact .inr ⟨m, es, clock, rfl, c _ _ (bP.2 rfl), a⟩
structure qR {κ : Type} (P : Program) (kt : TypeId) (kenc : κ → Value) (beq : κ → κ → Bool) : Prop where
 check : ∀ b k W, (Instr.checkKey b 10000 kt (kenc k)).run P W = .ok () W
 find : ∀ (k : κ) (l : List κ) (es : List MapEntry), es.map (·.key) = l.map kenc → ∀ W, (Instr.findKey kt (kenc k) es).run P W = .ok ((l.findIdx? (fun x => beq k x)).bind fun i => (es[i]?).map fun e => (i, e.val)) W
 eq : ∀ k x, beq k x = true → kenc x = kenc k
 bits : ∀ k, Instr.sameBits 10000 (kenc k) (kenc k) = true
section
variable {P : Program} {W : World} {κ : Type} {kt : TypeId} {kenc : κ → Value} {beq : κ → κ → Bool}
theorem Fe (a : ∀ x y W, (Op.equal kt (kenc x) (kenc y)).run P W = .ok (beq x y) W) (k : κ) : ∀ (l : List κ) (es : List MapEntry) (i : Nat), es.map (·.key) = l.map kenc →
  (Instr.findAsking kt (kenc k) es i).run P W = .ok ((l.findIdx? (fun x => beq k x)).bind fun j => (es[j]?).map fun e => (i + j, e.val)) W
 | [], [], i, h => by simp [Instr.findAsking]
 | [], _ :: _, i, h => by simp at h
 | _ :: _, [], i, h => by simp at h
 | x :: l, e :: es, i, h => by
  simp only [bM, bL] at h
  obtain ⟨h1, b⟩ := h
  simp only [Instr.findAsking, cN, h1, a, bW, gH]
  cases c : beq k x with
  | true => simp
  | false =>
   simp only [aB, aN]
   rw [Fe a k l es (i + 1) b]
   cases l.findIdx? (fun x => beq k x) with
   | none => rfl
   | some j => simp [fL, Nat.add_comm 1 j]
theorem N3 {kind : TypeDesc} (hk : ∀ a b, Instr.sameNow kind (.agg a) b = none) (a : Array Value) : ∀ (es : List MapEntry) (i : Nat), Instr.findNow kind (.agg a) es i = if es = [] then some none else none
 | [], i => by simp [Instr.findNow]
 | e :: es, i => by simp [Instr.findNow, hk]
theorem qR.struct {enc : κ → List Value} {i : Array Field} (o : P.underlying kt = some (.struct i)) (n : ∀ d x y W, (Op.equalIn (d + 10) kt (.agg (enc x).toArray) (.agg (enc y).toArray)).run P W = .ok (beq x y) W) (m : ∀ b k W, (Instr.checkKey b 10000 kt (.agg (enc k).toArray)).run P W = .ok () W) (he : ∀ k x, beq k x = true → x = k) (j : ∀ k, Instr.sameBits 10000 (.agg (enc k).toArray) (.agg (enc k).toArray) = true) : qR P kt (fun x => .agg (enc x).toArray) beq where
 check := m
 find := fun k l es h W => by
  have c : ∀ x y W, (Op.equal kt (.agg (enc x).toArray) (.agg (enc y).toArray)).run P W = .ok (beq x y) W := fun x y W => n 9990 x y W
  simp only [Instr.findKey, cN, aX o, bW]
  rw [N3 (fun a b => by cases b <;> rfl)]
  by_cases g : es = []
  ·subst g
   have : l = [] := by simpa using h.symm
   subst this
   simp
  ·rw [aY g]
   dsimp only
   rw [show Instr.findAsking kt (.agg (enc k).toArray) es = Instr.findAsking kt (.agg (enc k).toArray) es 0 from rfl, Fe c k l es 0 h]
   simp
 eq := fun k x h => by rw [he k x h]
 bits := j
theorem nU {a b : ByteArray} : np a b = true ↔ a = b := by
 unfold np
 rw [ig, ig]
 constructor
 ·intro h
  have h1 : a.data.toList = b.data.toList := by simpa using h
  exact kY (Array.toList_inj.1 h1)
 ·rintro rfl
  simp
theorem Ed (a b : ByteArray) : (a == b) = np a b := by
 rw [bX, nU]
 constructor
 ·intro h
  have h1 : (a.data == b.data) = true := h
  exact kY (by simpa using h1)
 ·rintro rfl
  show (a.data == a.data) = true
  simp
theorem Fh (k : ByteArray) : ∀ (l : List ByteArray) (es : List MapEntry) (i : Nat), es.map (·.key) = l.map Value.string →
  Instr.findNow .string (.string k) es i = some ((l.findIdx? (fun x => np k x)).bind fun j => (es[j]?).map fun e => (i + j, e.val))
 | [], [], i, h => by simp [Instr.findNow]
 | [], _ :: _, i, h => by simp at h
 | _ :: _, [], i, h => by simp at h
 | x :: l, e :: es, i, h => by
  simp only [bM, bL] at h
  obtain ⟨h1, a⟩ := h
  simp only [Instr.findNow, h1, Instr.sameNow, Ed, gH]
  cases b : np k x with
  | true => simp
  | false =>
   simp only [aB, aN]
   rw [Fh k l es (i + 1) a]
   cases l.findIdx? (fun x => np k x) with
   | none => rfl
   | some j => simp [fL, Nat.add_comm 1 j]
theorem pU (a : P.underlying kt = some .string) (n : Nat) (b : Bool) (k : ByteArray) (W : World) : (Instr.checkKey b (n + 1) kt (.string k)).run P W = .ok () W := by
 simp [Instr.checkKey, aX a]
theorem qR.string (a : P.underlying kt = some .string) : qR P kt Value.string np where
 check := fun b k W => pU a 9999 b k W
 find := fun k l es h W => by
  simp only [Instr.findKey, cN, aX a, bW]
  have := Fh k l es 0 h
  rw [this]
  simp
 eq := fun k x h => by rw [nU.1 h]
 bits := fun k => by simp only [Instr.sameBits]; rw [Ed]; exact nU.2 rfl
variable {β : Type} {vf : β → Value} {E : Nat → Value} {d : Option Nat} {ty : TypeId} {pos : String} {af : Array Edge} {g : Option (Nat × Bool)} {F : Nat → Prop} {w : World} {μ : mN} {L : List (Nat × Obj)}
theorem xN.keys {l : List (κ × β)} {es : Array MapEntry} {clock : Nat} (h : xN kenc vf l es clock) : es.toList.map (·.key) = (l.map (·.1)).map kenc := by
 have := bB (List.map Prod.fst) h.H4
 simpa [iF] using this
theorem xN.length {l : List (κ × β)} {es : Array MapEntry} {clock : Nat} (h : xN kenc vf l es clock) : es.size = l.length := by
 have := bB List.length h.H4
 simpa using this
theorem xN.get {l : List (κ × β)} {es : Array MapEntry} {clock : Nat} (h : xN kenc vf l es clock) (k : κ) :
  (((l.map (·.1)).findIdx? (fun x => beq k x)).bind fun i => (es.toList[i]?).map fun e => (i, e.val)) = (l.findIdx? (fun p => beq k p.1)).bind fun i => (l[i]?).map fun p => (i, vf p.2) := by
 rw [jl]
 show ((l.findIdx? (fun p => beq k p.1)).bind _) = _
 congr 1
 funext i
 have := bB (fun q => q[i]?) h.H4
 simp only [gO] at this
 cases h1 : es.toList[i]? with
 | none => rw [h1] at this; cases a : l[i]? with
  | none => rfl
  | some p => rw [a] at this; cases this
 | some e => rw [h1] at this; cases a : l[i]? with
  | none => rw [a] at this; cases this
  | some p => rw [a] at this; simp at this; simp [this.2]
theorem AZ (l : List (κ × β)) (k : κ) : nE beq l k = (l.findIdx? (fun p => beq k p.1)).bind fun i => (l[i]?).map (·.2) := by
 induction l with
 | nil => rfl
 | cons p l ih =>
  simp only [nE, fG, gH] at ih ⊢
  cases beq k p.1 with
  | true => rfl
  | false =>
   simp only [aB, aN]
   rw [ih]
   cases l.findIdx? (fun p => beq k p.1) <;> simp
theorem MP {t e : TypeId} {m x : Operand} {q z : Value} {l : List (κ × β)} {k : κ} (K : qR P kt kenc beq) (n : P.underlying t = some (.map kt e)) (b : ∀ w, (zeroValue e).run P w = .ok z w) (hm : lY E m = q) (v : lY E x = kenc k) (s : sS kenc vf (hp W) q l) :
  nZ P E ⟨d, .lookup t m x false, ty, pos, af, g⟩ W (((nE beq l k).map vf).getD z) W := by
 show (do pure (.value (← Instr.lookup t (lY E m) (lY E x) false)) : Sem Next).run P W = _
 rw [hm, v]
 rcases s with ⟨rfl, rfl⟩ | ⟨o, es, clock, rfl, u, c⟩
 ·have := K.find k [] [] rfl W
  simp [Instr.lookup, aX n, K.check, this, b W, nE]
 ·have a : W.heap[o]? = some (.map es clock) := u
  have r : (getObj o : Sem Obj).run P W = .ok (.map es clock) W := by simp [getObj, Sem.run, a]
  have h := K.find k _ _ c.keys W
  rw [c.get k] at h
  simp only [Instr.lookup, cN, aX n, bW, r, dP, K.check, h, AZ]
  cases y : l.findIdx? (fun p => beq k p.1) with
  | none => simp [b W]
  | some i =>
   cases j : l[i]? with
   | none => simp [j, b W]
   | some p => simp [j]
theorem ve {l : List (κ × β)} {k : κ} {i : Nat} (h : l.findIdx? (fun p => beq k p.1) = some i) : ∃ p, l[i]? = some p ∧ beq k p.1 = true := by
 rw [fC] at h
 obtain ⟨h1, a, _⟩ := h
 exact ⟨l[i], dF h1, a⟩
theorem xN.put {l : List (κ × β)} {es : Array MapEntry} {clock : Nat} (h : xN kenc vf l es clock) (k : κ) (v : β) :
  match l.findIdx? (fun p => beq k p.1) with
  | some i => xN kenc vf (l.set i (k, v)) (es.modify i fun e => { e with key := kenc k, val := vf v }) clock
  | none => xN kenc vf (l ++ [(k, v)]) (es.push { key := kenc k, val := vf v, born := clock }) (clock + 1) := by
 cases o : l.findIdx? (fun p => beq k p.1) with
 | none =>
  refine ⟨?_, ?_, ?_⟩
  ·simp [h.H4]
  ·simp only [Array.toList_push, dG]
   exact ⟨h.born, by simp, fun a ha b n => by simp at n; subst n; exact h.lt a ha⟩
  ·intro e he
   simp at he
   rcases he with he | rfl
   ·exact Nat.lt_succ_of_lt (h.lt e (by simpa using he))
   ·exact bF _
 | some i =>
  obtain ⟨p, hp, _⟩ := ve o
  have t : i < l.length := (bN.1 hp).1
  have c : (es.modify i fun e => { e with key := kenc k, val := vf v }).toList.map (·.born) = es.toList.map (·.born) := by
   apply fP
   intro j
   simp only [gO, eA, eS]
   split
   ·cases es[j]? <;> simp
   ·rfl
  refine ⟨?_, ?_, ?_⟩
  ·apply fP
   intro j
   have g := bB (fun q => q[j]?) h.H4
   simp only [gO, eA] at g
   simp only [gO, eA, eS, gN]
   by_cases d : i = j
   ·subst d
    simp only [aU]
    rw [aZ t]
    cases r : es[i]? with
    | none => rw [r, hp] at g; cases g
    | some e => rfl
   ·rw [aY d, aY d]; exact g
  ·have := h.born
   rw [← iG (f := fun e : MapEntry => e.born) (R := (· < ·))] at this ⊢
   rw [c]; exact this
  ·intro e he
   have : e.born ∈ es.toList.map (·.born) := by rw [← c]; exact bJ.2 ⟨e, he, rfl⟩
   obtain ⟨e', m, s⟩ := bJ.1 this
   rw [← s]; exact h.lt e' m
theorem Bl {W : World} {r : Nat} {es : Array MapEntry} {c : Nat} (b : W.heap[r]? = some (.map es c)) (a : Obj) : (setObj r a).run P W = .ok () (ChangeMaps.setBlock W r a) := by
 simp [setObj, Sem.run, b, ChangeMaps.setBlock]
theorem ST.setBlock {A B : List (Nat × Obj)} {b : Nat} {o : Obj} (h : ST dd F w W μ (A ++ (b, o) :: B)) (c : Obj) : ST dd F w (ChangeMaps.setBlock W b c) μ (A ++ (b, c) :: B) := by
 have d := (h.box b o (by simp)).1
 have a := qj d
 refine h.put ⟨rfl, rfl, rfl, bA _, by simp [ChangeMaps.setBlock]⟩ (fun k hk => ?_) ?_
 ·simp only [ChangeMaps.setBlock]
  rw [Array.getElem?_setIfInBounds_ne (fun e => hk e.symm)]
 ·simp only [ChangeMaps.setBlock]
  rw [Array.getElem?_setIfInBounds_self_of_lt a]
theorem Cq {D : Value → World → Prop} (X : List (Nat × Obj)) {Y R : List (Nat × Obj)} {t e : TypeId} {m x y : Operand} {A : Value} {l : List (κ × β)} {k : κ} {v : β} (K : qR P kt kenc beq) (J : P.underlying t = some (.map kt e)) (j : ST dd F w W μ (X ++ (R ++ Y))) (h : na kenc vf A l R) (hm : lY E m = A) (M : lY E x = kenc k) (O : lY E y = vf v) (I : ∀ W' R', ST dd F w W' μ (X ++ (R' ++ Y)) → na kenc vf A (pu beq l k v) R' → D undef W') : pv P E ⟨d, .mapUpdate t m x y, ty, pos, af, g⟩ W D := by
 obtain ⟨b, es, clock, rfl, rfl, s⟩ := h
 have u : W.heap[b]? = some (.map es clock) := (j.box b (.map es clock) (by simp)).1
 have G : (getObj b : Sem Obj).run P W = .ok (.map es clock) W := by simp [getObj, Sem.run, u]
 have n := K.find k _ _ s.keys W
 rw [s.get k] at n
 have a := s.put (beq := beq) k v
 have c : ∀ W', (Instr.mapUpdate t (.map (some b)) (kenc k) (vf v)).run P W = .ok () W' → (execOp (lY E) ⟨d, .mapUpdate t m x y, ty, pos, af, g⟩).run P W = .ok .skip W' := by
  intro W' L
  show (do Instr.mapUpdate t (lY E m) (lY E x) (lY E y); pure .skip : Sem Next).run P W = _
  rw [hm, M, O]
  simp [L]
 cases o : l.findIdx? (fun p => beq k p.1) with
 | none =>
  rw [o] at n a
  refine .inr (.inl ⟨ChangeMaps.setBlock W b (.map (es.push { key := kenc k, val := vf v, born := clock }) (clock + 1)), c _ ?_, I _ [(b, _)] (j.setBlock _) ⟨b, _, _, rfl, rfl, ?_⟩⟩)
  ·simp [Instr.mapUpdate, aX J, G, K.check, n, Bl u]
  ·rw [pu, o]; exact a
 | some i =>
  obtain ⟨p, hp, z⟩ := ve o
  rw [o] at n a
  simp only [aA, hp, eO] at n
  have r : ((es[i]?).map (·.key)).getD (kenc k) = kenc k := by
   have := bB (fun q => q[i]?) s.keys
   simp only [gO, hp, eO, eA] at this
   rw [this]
   simp [K.eq k p.1 z]
  refine .inr (.inl ⟨ChangeMaps.setBlock W b (.map (es.modify i fun e => { e with key := kenc k, val := vf v }) clock), c _ ?_, I _ [(b, _)] (j.setBlock _) ⟨b, _, _, rfl, rfl, ?_⟩⟩)
  ·simp only [Instr.mapUpdate, cN, aX J, G, K.check, n, bW, r, Instr.keyThatStays, K.bits, aU, dP]
   exact Bl u _
  ·rw [pu, o]; exact a
theorem FI {t e : TypeId} {m : Operand} {c : Value} {l : List (κ × β)} (b : P.underlying t = some (.map kt e)) (hm : lY E m = c) (i : sS kenc vf (hp W) c l) :
  nZ P E ⟨d, .call ⟨.builtin .len, #[m], #[t]⟩, ty, pos, af, g⟩ W (.int .i64 l.length) W := by
 show (do let d ← resolve (lY E) ⟨.builtin .len, #[m], #[t]⟩ ty; invoke d.target d.args : Sem Next).run P W = _
 rcases i with ⟨rfl, rfl⟩ | ⟨k, es, clock, rfl, j, h⟩
 ·simp [resolve, invoke, builtin, Builtin.len_, aX b, hm, goInt]
 ·have a : W.heap[k]? = some (.map es clock) := j
  simp [resolve, invoke, builtin, Builtin.len_, aX b, hm, goInt, getObj, Sem.run, a, h.length]
theorem CA {b : Value → World → Prop} {t : TypeId} (kenc : κ → Value) (vf : β → Value) (a : ST dd F w W μ L) (c : ∀ W' v R, ST dd F w W' μ (R ++ L) → na kenc vf v [] R → b v W') : pv P E ⟨d, .makeMap t none, ty, pos, af, g⟩ W b :=
 .inl ⟨.map (some W.heap.size), W.alloc (.map #[] 0), by
   show (do pure (.value (← Instr.makeMap t none)) : Sem Next).run P W = _
   simp [Instr.makeMap, newObj, Sem.run], c _ _ [(W.heap.size, .map #[] 0)] (a.alloc _) ⟨_, _, _, rfl, rfl, ⟨rfl, by simp, by simp⟩⟩⟩
end
end Go.Proofs.YtklbhegeiijbjaaGreat
namespace Go.Proofs.YtklbhegeiijbjaaGreat
open Go.RowKit
variable {dd : Bool}
open Classical in
noncomputable def Hu {α β : Type} (l : List α) (f : List α → Option β) : Option β :=
 if h : ∃ r, ∀ o, o.Perm l → f o = some r then some h.choose else none
theorem Js {α β : Type} {l : List α} {f : List α → Option β} {r : β} (h : ∀ o, o.Perm l → f o = some r) : Hu l f = some r := by
 have a : ∃ r, ∀ o, o.Perm l → f o = some r := ⟨r, h⟩
 unfold Hu
 rw [dif_pos a]
 have h1 := a.choose_spec l (.refl l)
 rw [h l (.refl l)] at h1
 exact h1.symm
end Go.Proofs.YtklbhegeiijbjaaGreat
namespace Go.Proofs.YtklbhegeiijbjaaGreat
open Go.RowKit
variable {dd : Bool}
def Vt {α β : Type} (P : Program) (fv : Value) (μ : mN) (a : α → List Value) (b : β → Value) (pm : α → Option β) : Prop :=
 ∃ f caps, fv = .func (.func f) #[] caps ∧ (∀ args w, (callFunc f args).run P w = .ok (.enter f args) w) ∧ ∀ W x r, mx μ (hp W) → pm x = some r → mo true P f (a x ++ caps.toList) W (b r)
def Al {α β : Type} (P : Program) (fv : Value) (μ : mN) (a : α → List Value) (b : β → Value) (pm : α → Option β) : Prop :=
 ∃ f first caps, fv = .func (.func f) first caps ∧ (∀ args w, (callFunc f args).run P w = .ok (.enter f args) w) ∧ ∀ W x r, mx μ (hp W) → pm x = some r → mo false P f (first.toList ++ (a x ++ caps.toList)) W (b r)
theorem Al.form {α β : Type} {P : Program} {fv : Value} {μ : mN} {c : α → List Value} {d : β → Value} {pm : α → Option β} (h : Al P fv μ c d pm) : ∃ f a b, fv = .func f a b := let ⟨f, a, b, h, _⟩ := h; ⟨_, a, b, h⟩
section
variable {P : Program} {W : World} {E : Nat → Value} {d : Option Nat} {ty : TypeId} {pos : String} {af : Array Edge} {g : Option (Nat × Bool)} {F : Nat → Prop} {w : World} {μ μ0 : mN} {L : List (Nat × Obj)}
theorem Al.mono {α β : Type} {fv : Value} {a : α → List Value} {b : β → Value} {pm : α → Option β} (h : Al P fv μ a b pm) (g : mx μ μ0) : Al P fv μ0 a b pm := by
 obtain ⟨f, first, caps, h1, c, d⟩ := h
 exact ⟨f, first, caps, h1, c, fun W x r h => d W x r (g.trans h)⟩
theorem NP {α β : Type} {K : Value → World → Prop} {fv : Value} {b : α → List Value} {j : β → Value} {pm : α → Option β} {c : Operand} {ax : Array Operand} {ats : Array TypeId} (x : α) {r : β} (a : ST false F w W μ L) (o : Al P fv μ0 b j pm) (s : mx μ0 μ) (q : lY E c = fv) (ha : ax.map (lY E) ++ (#[] : Array Value) = (b x).toArray) (hm : pm x = some r) (h : ∀ W', ST false F w W' μ L → K (j r) W') : pv P E ⟨d, .call ⟨.value c, ax, ats⟩, ty, pos, af, g⟩ W K := by
 obtain ⟨f, first, caps, rfl, k, l⟩ := o
 have i : ax.map (lY E) = (b x).toArray := by simpa using ha
 refine .inr (.inr ⟨f, (first.toList ++ (b x ++ caps.toList)).toArray, ?_, dW (l W x r (s.trans a.lL) hm) (fun _ _ ⟨m, n⟩ => ⟨_, m, h _ (a.JI n)⟩)⟩)
 show (do let d ← resolve (lY E) ⟨.value c, ax, ats⟩ ty; invoke d.target d.args : Sem Next).run P W = _
 simp only [resolve, q, Deferred.ofValue, cN, dP, bW, invoke, i, k]
 congr 2
 simp
end
end Go.Proofs.YtklbhegeiijbjaaGreat
namespace Go.Proofs.YtklbhegeiijbjaaGreat
open Go.RowKit
variable {dd : Bool}
def Ca (A : List (Nat × Obj)) : mN := fun b => (A.find? (fun p => p.1 == b)).map (·.2)
theorem oB {A : List (Nat × Obj)} {W : World} (h : ∀ b o, (b, o) ∈ A → W.heap[b]? = some o) : ∀ b o, Ca A b = some o → W.heap[b]? = some o := fun b o a => by
 unfold Ca at a
 cases c : A.find? (fun p => p.1 == b) with
 | none => rw [c] at a; cases a
 | some p =>
  rw [c] at a
  cases a
  have h1 := gL c
  have d := jP c
  simp at d
  subst d
  exact h _ _ h1
theorem At.of {M : mN} {b : Nat} {cs : Array Value} {T : TypeId} {fr : Nat × Nat} (h : M b = some (.cells cs T fr)) (ys : List Value) (c : cs.toList = ys) : At M (.pointer (some ⟨b, 0, none⟩)) ys :=
 ⟨b, 0, cs, T, fr, rfl, h, fun j y a => by subst c; simpa using a⟩
section
variable {F : Nat → Prop} {w W W' : World} {μ μ' : mN} {L L0 L1 L2 : List (Nat × Obj)}
theorem ST.O6 (h : ST dd F w W μ L) (a : L.Perm (L0 ++ L2)) : ∀ b o, (b, o) ∈ L2 → wW W L0 b = some o := fun b o c => by
 have h1 := (h.perm a).at_ (dZ _ c)
 unfold wW
 rw [aY (HW (h.perm a).nd c)]
 exact h1
theorem ST.held (h : ST dd F w W μ L) (a : L.Perm (L0 ++ L2)) : Ht L0 W := fun b o c => ((h.perm a).box b o (cK _ c)).1
theorem ST.U5 (h : ST dd F w W μ L) (a : L.Perm (L0 ++ L2)) : (L0.map (·.1)).Nodup := by
 have := (h.perm a).nd
 rw [cM] at this
 exact (cA.1 this).1
theorem ST.VR (h : ST dd F w W μ L) (a : L.Perm (L0 ++ L2)) : mx μ (wW W L0) := (h.perm a).nt (fun _ hp => cK _ hp)
end
section
variable {P : Program} {E : Nat → Value} {W : World} {d : Option Nat} {ty : TypeId} {pos : String} {af : Array Edge} {g : Option (Nat × Bool)}
 {F : Nat → Prop} {w : World} {μ : mN} {L : List (Nat × Obj)}
theorem T6 {K : Value → World → Prop} {K' : Value → List (Nat × Obj) → World → Prop} {f : FuncId} {fv : Operand} {ax : Array Operand} {ats : Array TypeId} {caps : Array Value} {args : List Value} (L0 L2 : List (Nat × Obj)) (a : ST dd F w W μ L) (c : L.Perm (L0 ++ L2)) (m : lY E fv = .func (.func f) #[] caps) (he : ∀ args w, (callFunc f args).run P w = .ok (.enter f args) w) (ha : ax.map (lY E) ++ (#[] : Array Value) = args.toArray) (l : Ht L0 W → (L0.map (·.1)).Nodup → mx μ (wW W L0) → (∀ b o, (b, o) ∈ L2 → wW W L0 b = some o) → nJ dd P f (args ++ caps.toList) W L0 K') (h : ∀ W' v μ' L1, ST dd F w W' μ' (L1 ++ L2) → mx μ μ' → Lo F w μ μ' → (∀ b, W.heap.size ≤ b → ∀ o, wW W' L1 b = some o → μ' b = some o) → K' v L1 W' → K v W') : pv P E ⟨d, .call ⟨.value fv, ax, ats⟩, ty, pos, af, g⟩ W K := by
 have i : ax.map (lY E) = args.toArray := by simpa using ha
 refine HV (args := (args ++ caps.toList).toArray) m he (by rw [i]; simp) (dW (l (a.held c) (a.U5 c) (a.VR c) (a.O6 c)) (fun _ W' ⟨v, L1, h1, j, k⟩ => ⟨v, h1, h W' v _ L1 ((a.perm c).back j) ((a.perm c).Lq W' L1) ((a.perm c).NF W' L1) ?_ k⟩))
 intro b q o n
 unfold Ew
 rw [aY (by omega)]
 exact n
theorem Sl.lift {α : Type} {enc : α → List Value} {k : Nat} {M μ' : mN} {B : Nat} {v : Value} {l : List α} (h : Sl (Pl enc) k M v l) (q : Fr B v) (n : ∀ b, B ≤ b → ∀ o, M b = some o → μ' b = some o) : Sl (Pl enc) k μ' v l := by
 obtain ⟨A, c, h1, d, g, i⟩ := h
 refine ⟨A, c, h1, d, g, fun r => ?_⟩
 obtain ⟨b, off, cs, T, fr, a, j, m⟩ := i r
 exact ⟨b, off, cs, T, fr, a, n b (q b (by rw [h1, a]; rfl)) _ j, m⟩
theorem IJ {t : TypeId} (dd : Nat) {s u : Array TypeId} {b : Bool} (d : P.underlying t = some (.func s u b)) (f : Fn) (a c : Array Value) (W : World) : (Op.equalIn (dd + 1) t (.func f a c) .nilFunc).run P W = .ok false W := by
 simp [Op.equalIn, aX d]
end
def zn {κ β : Type} (beq : κ → κ → Bool) (l : List (κ × β)) (k : κ) (z : β) : β := (nE beq l k).getD z
section
variable {P : Program} {W : World} {κ β : Type} {kt : TypeId} {kenc : κ → Value} {beq : κ → κ → Bool} {vf : β → Value} {E : Nat → Value} {d : Option Nat} {ty : TypeId} {pos : String} {af : Array Edge} {g : Option (Nat × Bool)} {F : Nat → Prop} {w : World} {μ : mN} {L R : List (Nat × Obj)} {v : Value} {left : List (κ × β)}
theorem xi {t e : TypeId} {m x : Operand} {a : Value} {l : List (κ × β)} {k : κ} {z : β} (K : qR P kt kenc beq) (c : P.underlying t = some (.map kt e)) (j : ∀ w, (zeroValue e).run P w = .ok (vf z) w) (hm : lY E m = a) (i : lY E x = kenc k) (b : sS kenc vf (hp W) a l) :
  nZ P E ⟨d, .lookup t m x false, ty, pos, af, g⟩ W (vf (zn beq l k z)) W := by
 have := MP (d := d) (ty := ty) (pos := pos) (af := af) (g := g) K c j hm i b
 rw [zn]
 cases h : nE beq l k with
 | none => rw [h] at this; exact this
 | some y => rw [h] at this; exact this
theorem na.one {a : Value} {l : List (κ × β)} (h : na kenc vf a l R) : a.oneCell' = true := by obtain ⟨m, es, clock, rfl, _⟩ := h; rfl
theorem na.form {a : Value} {l : List (κ × β)} (h : na kenc vf a l R) : ∃ m, a = .map (some m) := by obtain ⟨m, es, clock, rfl, _⟩ := h; exact ⟨m, rfl⟩
theorem na.nd {a : Value} {l : List (κ × β)} (h : na kenc vf a l R) : (R.map (·.1)).Nodup := by obtain ⟨m, es, clock, rfl, rfl, _⟩ := h; simp
theorem na.Gv {a : Value} {l : List (κ × β)} (h : na kenc vf a l R) : sS kenc vf (Ca R) a l := by
 obtain ⟨m, es, clock, rfl, rfl, b⟩ := h
 exact .inr ⟨m, es, clock, rfl, by simp [Ca], b⟩
end
def pV {α : Type} (l : List α) (i : Nat) (z : α) : List α := l.take i ++ List.replicate (l.length - i) z
theorem yN {α : Type} (l : List α) (i : Nat) (z : α) (h : i ≤ l.length) : (pV l i z).length = l.length := by simp [pV]; omega
theorem ID {α : Type} (l : List α) (i : Nat) (z : α) (h : i ≤ l.length) : (pV l i z).take i = l.take i := by
 simp only [pV]
 rw [ij, cZ (by simp; omega)]
 simp; omega
end Go.Proofs.YtklbhegeiijbjaaGreat
namespace Go.Proofs.YtklbhegeiijbjaaGreat
open Go.RowKit
theorem MJ {P : Program} {kt : TypeId} {k : IntKind} (a : P.underlying kt = some (.int k)) (n : Nat) (b : Bool) (k' : IntKind) (x : Int) (W : World) : (Instr.checkKey b (n + 1) kt (.int k' x)).run P W = .ok () W := by
 simp [Instr.checkKey, aX a]
theorem LS {P : Program} {cs : Array Value} {b : Bool} {n : Nat} {W : World} : ∀ (l : List Field),
  (∀ f ∈ l, f.name ≠ "_" → ∃ v, (part f.type cs f.offset).run P W = .ok v W ∧ (Instr.checkKey b n f.type v).run P W = .ok () W) →
  ((forIn l PUnit.unit fun f (_ : PUnit) => do
   if f.name ≠ "_" then Instr.checkKey b n f.type (← part f.type cs f.offset)
   pure (ForInStep.yield PUnit.unit)) : Sem PUnit).run P W = .ok PUnit.unit W
 | [], _ => by simp
 | f :: l, h => by
  have ih := LS l (fun f d => h f (gP _ d))
  simp only [List.forIn_cons, cN]
  by_cases a : f.name ≠ "_"
  ·obtain ⟨v, h1, c⟩ := h f (by simp) a
   simp only [aZ a, cN, h1, bW, c, dP]
   exact ih
  ·simp only [aY a, cN, dP, bW]
   exact ih
theorem xx {P : Program} {kt : TypeId} {a : Array Field} {l : List Field} {cs : Array Value} {b : Bool} {n : Nat} {W : World} (d : P.underlying kt = some (.struct a)) (c : a.toList = l) (h : ∀ f ∈ l, f.name ≠ "_" → ∃ v, (part f.type cs f.offset).run P W = .ok v W ∧ (Instr.checkKey b n f.type v).run P W = .ok () W) : (Instr.checkKey b (n + 1) kt (.agg cs)).run P W = .ok () W := by
 obtain ⟨a⟩ := a
 subst c
 simp only [Instr.checkKey, cN, aX d, bW, List.forIn_toArray]
 have := LS (P := P) (cs := cs) (b := b) (n := n) (W := W) a h
 simp only [cN] at this
 first | rw [this]; rfl | simpa using this
variable {dd : Bool}
def rU (b : Bool) : Option Unit := if b = true then some () else none
theorem MV {b : Bool} {u : Unit} (h : rU b = some u) : b = true := by
 unfold rU at h; split at h
 ·assumption
 ·cases h
theorem ue {a c : Int} {u : Unit} (h : rU (decide (0 ≤ a) && decide (a ≤ c)) = some u) : 0 ≤ a := by have := MV h; simp at this; exact this.1
theorem tL {a c : Int} {u : Unit} (h : rU (decide (0 ≤ a) && decide (a ≤ c)) = some u) : a ≤ c := by have := MV h; simp at this; exact this.2
def Dq (k : Nat) (v : Value) (i : Nat) (u : Value) : Prop := ∃ A n c A' a, v = .slice A n c ∧ u = .slice A' (n - i) a ∧ i ≤ n ∧ (i < n → ∃ b o, A = some ⟨b, o, none⟩ ∧ A' = some ⟨b, o + i * k, none⟩)
section
variable {P : Program} {E : Nat → Value} {W : World} {d : Option Nat} {ty : TypeId} {pos : String} {af : Array Edge} {g : Option (Nat × Bool)}
 {F : Nat → Prop} {w : World} {μ : mN} {L : List (Nat × Obj)} {α : Type} {e' : TypeId} {enc : α → List Value} {k : Nat} {v : Value} {l : List α} {R : List (Nat × Obj)}
theorem xG {t e : TypeId} {x a : Operand} {y : IntKind} {i : Int} (m : P.underlying t = some (.slice e)) (he : ∀ w, (sizeOf e).run P w = .ok k w) (n : lY E x = v) (c : lY E a = .int y i) (h : mw e' enc k v l R) (q : 0 ≤ i) (j : i ≤ l.length) :
  ∃ u, Dq k v i.toNat u ∧ ∀ W, nZ P E ⟨d, .slice t x (some a) none none, ty, pos, af, g⟩ W u W := by
 rcases h with ⟨rfl, rfl, rfl⟩ | ⟨b, cap, o, rfl, rfl, h1, z, A, D⟩
 ·have : i = 0 := by simp at j; omega
  subst this
  refine ⟨.slice none 0 0, ⟨none, 0, 0, none, 0, rfl, rfl, bA _, fun h => absurd h (by simp)⟩, fun W => ?_⟩
  show (do pure (.value (← Instr.sliceAt t (lY E x) (some (lY E a)) none none)) : Sem Next).run P W = _
  rw [n, c]
  simp [Instr.sliceAt, Instr.slice, Instr.sliceBounds, Instr.sliceBound, asIntOf, aX m, he W]
 ·refine ⟨.slice (some (if cap = i.toNat then ⟨b, 0, none⟩ else (Addr.add ⟨b, 0, none⟩ (i.toNat * k)))) (l.length - i.toNat) (cap - i.toNat), ⟨_, _, _, _, _, rfl, rfl, by omega, fun s => ⟨b, 0, rfl, ?_⟩⟩, fun W => ?_⟩
  ·rw [aY (by omega)]; simp [eE]
  ·show (do pure (.value (← Instr.sliceAt t (lY E x) (some (lY E a)) none none)) : Sem Next).run P W = _
   rw [n, c]
   have r : 0 ≤ i ∧ i ≤ (l.length : Int) := ⟨q, j⟩
   simp [Instr.sliceAt, Instr.slice, Instr.sliceBounds, Instr.sliceBound, asIntOf, aX m, he W, r]
   split <;> rfl
theorem zI {i j : Nat} {x0 : α} (h : (l.drop i)[j]? = some x0) : l[i + j]? = some x0 := by rwa [eJ] at h
theorem G0 {t e : TypeId} {x : Operand} {u : Value} {i : Nat} (j : P.underlying t = some (.slice e)) (m : lY E x = u) (hu : Dq k v i u) (h : mw e' enc k v l R) : nZ P E ⟨d, .call ⟨.builtin .len, #[x], #[t]⟩, ty, pos, af, g⟩ W (.int .i64 ((l.length - i : Nat) : Int)) W := by
 obtain ⟨A, n, c, A', o, h1, b, r, _⟩ := hu
 subst b
 have : n = l.length := by
  rcases h with ⟨rfl, rfl, rfl⟩ | ⟨q, cap, a, rfl, rfl, _⟩
  ·cases h1; rfl
  ·cases h1; rfl
 subst this
 exact Ac j m
theorem xJ {t e : TypeId} {x m : Operand} {M : IntKind} {i : Int} {x0 : α} {u : Value} {o : Nat} (J : P.underlying t = some (.slice e)) (he : ∀ w, (sizeOf e).run P w = .ok k w) (L : lY E x = u) (G : lY E m = .int M i) (h : mw e' enc k v l R) (hu : Dq k v o u) (z : 0 ≤ i) (I : (l.drop o)[i.toNat]? = some x0) :
  ∃ p, DC R k p (o + i.toNat) ∧ ∀ W, nZ P E ⟨d, .indexAddr t x m, ty, pos, af, g⟩ W p W := by
 have a := zI I
 have j : o + i.toNat < l.length := (bN.1 a).1
 rcases h with ⟨rfl, rfl, rfl⟩ | ⟨y, cap, q, rfl, rfl, h1, Q, T, U⟩
 ·simp at j
 obtain ⟨A, n, c, A', O, r, rfl, Y, D⟩ := hu
 cases r
 obtain ⟨b, Z, s, rfl⟩ := D (by omega)
 cases s
 refine ⟨.pointer (some ⟨y, (o + i.toNat) * k, none⟩), ⟨_, _, rfl, rfl⟩, fun W => ?_⟩
 show (do pure (.value (← Instr.indexAt t (lY E x) (lY E m))) : Sem Next).run P W = _
 rw [L, G]
 have F : 0 ≤ i ∧ i < ((l.length - o : Nat) : Int) := ⟨z, by omega⟩
 simp [Instr.indexAt, asIntOf, aX J, he W, F, eE, cU]
theorem Fb (ys : List Value) (m : Nat) : (Builtin.zeroCells ys.toArray m).toList = (List.replicate m ys).flatten := by
 unfold Builtin.zeroCells
 simp only [Array.toList_map, Array.toList_range, eF]
 rcases fJ ys.length with a | a
 ·have : ys = [] := fA.1 a
  subst this
  simp
 apply fP
 intro q
 by_cases c : q < m * ys.length
 ·have h1 : q / ys.length < m := (jy a).2 c
  have b : q % ys.length < ys.length := Nat.mod_lt _ a
  have := zH (enc := fun _ : Unit => ys) (fun _ => rfl) (List.replicate m ()) (q / ys.length) () (by simp [h1]) (q % ys.length) ys[q % ys.length] (by simp [b])
  rw [Nat.div_add_mod' q ys.length] at this
  rw [kf] at this
  rw [this]
  simp [c, b]
 ·rw [iD (by simp; omega), iD (by simp; omega)]
theorem Of {K : Value → World → Prop} (z : α) (X : List (Nat × Obj)) {Y : List (Nat × Obj)} {t e : TypeId} {x : Operand} {u Z : Value} {i : Nat} (q : ST dd F w W μ (X ++ (R ++ Y))) (h : mw e' enc k v l R) (hk : ∀ x, (enc x).length = k) (h1 : ∀ x, ∀ u ∈ enc x, u.oneCell' = true) (O : P.underlying t = some (.slice e)) (hz : ∀ w, (zeroValue e).run P w = .ok Z w) (hu : Dq k v i u) (hc : Z.cells = (enc z).toArray) (hx : lY E x = u) (L : ∀ W' R', ST dd F w W' μ (X ++ (R' ++ Y)) → mw e' enc k v (pV l i z) R' → K (.tuple #[]) W') : pv P E ⟨d, .call ⟨.builtin .clear, #[x], #[t]⟩, ty, pos, af, g⟩ W K := by
 have j : ∀ (W' : World), (Builtin.clear_ #[t] ty #[u]).run P W = .ok (.tuple #[]) W' → (execOp (lY E) ⟨d, .call ⟨.builtin .clear, #[x], #[t]⟩, ty, pos, af, g⟩).run P W = .ok (.value (.tuple #[])) W' := by
  intro W' hV
  show (do let d ← resolve (lY E) ⟨.builtin .clear, #[x], #[t]⟩ ty; invoke d.target d.args : Sem Next).run P W = _
  simp [resolve, invoke, builtin, hx, hV]
 obtain ⟨A, n, c, A', c', e1, rfl, D, h8⟩ := hu
 rcases h with ⟨rfl, rfl, rfl⟩ | ⟨s, cap, a, rfl, rfl, U, q2, I, q4⟩
 ·cases e1
  refine .inl ⟨_, W, j W ?_, L W [] q (by simpa [pV] using mw.nil e' enc k)⟩
  simp only [Builtin.clear_, Nat.zero_sub]
  cases A' <;> simp [aX O]
 ·cases e1
  by_cases hi : i < l.length
  ·obtain ⟨b, o, e2, rfl⟩ := h8 hi
   cases e2
   have T : ∀ m, (Builtin.zeroCells Z.cells m).toList = (List.replicate m (enc z)).flatten := by
    intro m
    rw [hc]; exact Fb _ _
   have hb := (q.box s (.cells a e' (0, 0)) (by simp)).1
   have hle : i * k + (l.length - i) * k = l.length * k := by rw [← cU]; congr 1; omega
   have hlen : l.length * k ≤ c * k := cR _ U
   have r : ((List.replicate (l.length - i) (enc z)).flatten).length = (l.length - i) * k := by simp [hk]
   have y : ∀ v ∈ (List.replicate (l.length - i) (enc z)).flatten, v.oneCell' = true := by
    intro v G
    obtain ⟨ys, Q, G⟩ := la.1 G
    rw [(List.mem_replicate.1 Q).2] at G
    exact h1 z v G
   have hs := kD (P := P) s (i * k) e' ((List.replicate (l.length - i) (enc z)).flatten) 0 a W hb (by rw [r, I]; omega) y
   rw [jX, r, hle] at hs
   refine .inl ⟨_, W.setRow s (a.toList.take (i * k) ++ (List.replicate (l.length - i) (enc z)).flatten ++ a.toList.drop (l.length * k)).toArray, j _ ?_, L _ [(s, .cells (a.toList.take (i * k) ++ (List.replicate (l.length - i) (enc z)).flatten ++ a.toList.drop (l.length * k)).toArray e' (0, 0))] (q.store _) (.inr ⟨s, c, _, by rw [yN _ _ _ D], rfl, by rw [yN _ _ _ D]; exact U, q2, ?_, ?_⟩)⟩
   ·have hn : l.length - i = (l.length - i - 1) + 1 := by omega
    simp only [Builtin.clear_]
    rw [hn]
    simp only [aX O, cN, bW, List.getElem?_toArray, jh, hz, gQ]
    rw [← hn, T, hs]
    simp
   ·have J : a.toList.length = c * k := by simpa using I
    rw [eF, aD, aD, cX, jA, r, J, dU (by omega)]
    omega
   ·rw [yN _ _ _ D, pV, cM, cY, Ep hk l i D, ← q4, iL, dU (by omega), kf]
    have J : a.toList.length = c * k := by simpa using I
    have e3 : (a.toList.take (i * k) ++ (List.replicate (l.length - i) (enc z)).flatten).length = l.length * k := by rw [aD, cX, r, J, dU (by omega)]; omega
    show List.take (l.length * k) (a.toList.take (i * k) ++ (List.replicate (l.length - i) (enc z)).flatten ++ a.toList.drop (l.length * k)) = _
    rw [ij, cZ (by rw [e3]; exact bA _), e3, Nat.sub_self]
    simp
  ·have M : i = l.length := by omega
   subst M
   refine .inl ⟨_, W, j W ?_, L W _ q ?_⟩
   ·simp only [Builtin.clear_, Nat.sub_self]
    cases A' <;> simp [aX O]
   ·simp only [pV, lc, Nat.sub_self, List.replicate_zero, bT]
    exact .inr ⟨s, c, a, rfl, rfl, U, q2, I, q4⟩
end
end Go.Proofs.YtklbhegeiijbjaaGreat
namespace Go.Proofs.YtklbhegeiijbjaaGreat
open Go.RowKit
variable {dd : Bool}
section
variable {P : Program} {E : Nat → Value} {W : World} {d : Option Nat} {ty : TypeId} {pos : String} {af : Array Edge} {g : Option (Nat × Bool)}
 {F : Nat → Prop} {w : World} {μ : mN} {L : List (Nat × Obj)}
theorem PM {K : Value → World → Prop} {f : FuncId} {fv : Operand} {ax : Array Operand} {ats : Array TypeId} {args : List Value} {v : Value} (b : lY E fv = .func (.func f) #[] #[]) (ha : ax.map (lY E) ++ (#[] : Array Value) = args.toArray) (c : (callFunc f args.toArray).run P W = .ok (.value v) W) (h : K v W) : pv P E ⟨d, .call ⟨.value fv, ax, ats⟩, ty, pos, af, g⟩ W K := by
 have a : ax.map (lY E) = args.toArray := by simpa using ha
 refine .inl ⟨v, W, ?_, h⟩
 show (do let d ← resolve (lY E) ⟨.value fv, ax, ats⟩ ty; invoke d.target d.args : Sem Next).run P W = _
 simp only [resolve, b, Deferred.ofValue, cN, dP, bW, invoke]
 rw [a]
 simpa using c
def Ae (s : ByteArray) (c : Int) : Int := Lib.indexByte s.data.toList c.toNat.toUInt8
def rJ (a b : ByteArray) : Int := Lib.compareBytes a.data.toList b.data.toList
def yk (l : List Int) : List UInt8 := l.map fun x => x.toNat.toUInt8
def Ba (a b : List Int) : Int := Lib.compareBytes (yk a) (yk b)
theorem Kv {f : FuncId} {fn : Func} (d : P.funcs[f]? = some fn) (a : (fn.name == "runtime.NumGoroutine") = false) (b : fn.body.isNone = true) (g : Extern.findNext fn = none) (he : Extern.find fn = some Extern.BytealgIndexByte.indexByte) (s : ByteArray) (c : Int) (w : World) :
  (callFunc f [Value.string s, .int .u8 c].toArray).run P w = .ok (.value (.int .i64 (Ae s c))) w := by
 rw [jR d a b g he]
 rw [Lib.run_indexByteString]
 rfl
theorem RU {f : FuncId} {fn : Func} (g : P.funcs[f]? = some fn) (c : (fn.name == "runtime.NumGoroutine") = false) (d : fn.body.isNone = true) (h : Extern.findNext fn = none) (he : Extern.find fn = some Extern.BytealgCompare.compare) (a b : ByteArray) (w : World) :
  (callFunc f [Value.string a, .string b].toArray).run P w = .ok (.value (.int .i64 (rJ a b))) w := by
 rw [jR g c d h he]
 rw [Lib.run_compareString]
 rfl
theorem GF {v : Value} {l : List Int} (h : Sl (Pl (ns .u8)) 1 (hp W) v l) : (Extern.Bytes.bytesOf v).run P W = .ok ⟨(yk l).toArray⟩ W := by
 obtain ⟨A, c, rfl, o, q, i⟩ := h
 rcases fJ l.length with a | a
 ·have : l = [] := fA.1 a
  subst this
  cases A <;> simp [Extern.Bytes.bytesOf, Extern.Bytes.loadBytes, yk] <;> rfl
 ·obtain ⟨b, off, cs, T, fr, rfl, k, m⟩ := i a
  have := Lib.run_loadBytesX (P := P) W l ⟨b, off, none⟩ .empty (fun j x n => by
   obtain ⟨ys, _, g, d⟩ := m j x n
   cases g
   rw [eE, jg W b (off + j) cs T fr k]
   have := d 0 (.int .u8 x) rfl
   simpa using this)
  simp only [Extern.Bytes.bytesOf]
  rw [this]
  congr 1
  apply kY
  show (#[] : Array UInt8) ++ _ = _
  simp [Lib.bytesOf, yk]
theorem SH {f : FuncId} {fn : Func} (j : P.funcs[f]? = some fn) (c : (fn.name == "runtime.NumGoroutine") = false) (i : fn.body.isNone = true) (k : Extern.findNext fn = none) (he : Extern.find fn = some Extern.BytealgCompare.compare) {d g : Value} {a b : List Int} (h1 : Sl (Pl (ns .u8)) 1 (hp W) d a) (h : Sl (Pl (ns .u8)) 1 (hp W) g b) :
  (callFunc f [d, g].toArray).run P W = .ok (.value (.int .i64 (Ba a b))) W := by
 rw [jR j c i k he]
 have : (Extern.BytealgCompare.compare [d, g].toArray).run P W = .ok (.int .i64 (Ba a b)) W := by
  change Sem.run P (do pure (goInt (Extern.BytealgCompare.cmp (← Extern.Bytes.bytesOf d) (← Extern.Bytes.bytesOf g)))) W = _
  simp only [cN, GF h1, GF h, dP, Result.andThen]
  rw [Lib.cmp_eq]
  rfl
 rw [this]
 rfl
theorem qz {fn : Fn} {caps : Array Operand} {cs : List Value} {v : Value} (a : caps.map (lY E) ++ (#[] : Array Value) = cs.toArray) (b : .func fn #[] cs.toArray = v) : nZ P E ⟨d, .makeFunc fn #[] caps, ty, pos, af, g⟩ W v W := by
 have : caps.map (lY E) = cs.toArray := by simpa using a
 exact Pu (by rw [this]; simpa using b)
theorem nJ.mono {f : FuncId} {args : List Value} {L0 : List (Nat × Obj)} {K K' : Value → List (Nat × Obj) → World → Prop} (h : nJ dd P f args w L0 K) (hk : ∀ v L1 W', K v L1 W' → K' v L1 W') : nJ dd P f args w L0 K' :=
 dW h (fun _ _ ⟨v, L1, h1, a, b⟩ => ⟨v, L1, h1, a, hk _ _ _ b⟩)
end
section
variable {α : Type}
def xj (cf : α × α → Option Int) (x y : α) : Bool := match cf (x, y) with
 | some c => decide (c < 0)
 | none => false
structure Ha (cf : α × α → Option Int) (l : List α) : Prop where
 is : ∀ x ∈ l, ∀ y ∈ l, ∃ c, cf (x, y) = some c
 irrefl : ∀ x ∈ l, xj cf x x = false
 trans : ∀ x ∈ l, ∀ y ∈ l, ∀ z ∈ l, xj cf x y = true → xj cf y z = true → xj cf x z = true
 total : ∀ x ∈ l, ∀ y ∈ l, xj cf x y = false → xj cf y x = false → x = y
 short : l.length < 4611686018427387904
def wy (cf : α × α → Option Int) (l : List α) : List α := l.mergeSort fun x y => !xj cf y x
open Classical in
noncomputable def AT (cf : α × α → Option Int) (l : List α) : Option (List α) := if Ha cf l then some (wy cf l) else none
theorem Kn {cf : α × α → Option Int} {l r : List α} (h : AT cf l = some r) : Ha cf l ∧ r = wy cf l := by
 unfold AT at h
 split at h
 ·rename_i a; cases h; exact ⟨a, rfl⟩
 ·cases h
theorem SX {cf : α × α → Option Int} {l : List α} (h : Ha cf l) : AT cf l = some (wy cf l) := by
 unfold AT; rw [aZ h]
def yb (l : List ByteArray) : List ByteArray := l.mergeSort fun x y => !tp y x
end
end Go.Proofs.YtklbhegeiijbjaaGreat
namespace Go.Proofs.YtklbhegeiijbjaaGreat
open Go.RowKit
section
variable {P : Program} {E : Nat → Value} {W : World} {d : Option Nat} {ty : TypeId} {pos : String} {af : Array Edge} {g : Option (Nat × Bool)}
theorem RP {x y : Operand} {ats : Array TypeId} {k : IntKind} {a b : Int} (c : lY E x = .int k a) (h : lY E y = .int k b) :
  nZ P E ⟨d, .call ⟨.builtin .min, #[x, y], ats⟩, ty, pos, af, g⟩ W (.int k (if b < a then b else a)) W := by
 show (do let d ← resolve (lY E) ⟨.builtin .min, #[x, y], ats⟩ ty; invoke d.target d.args : Sem Next).run P W = _
 simp [resolve, invoke, c, h, builtin, Builtin.min_, Builtin.min2]
end
variable {dd : Bool}
def zL {κ γ : Type} (Q : Value → γ → List (Nat × Obj) → Prop) : List (κ × Value) → List (κ × γ) → List (Nat × Obj) → Prop
 | [], [], R => R = []
 | p :: a, q :: l, R => p.1 = q.1 ∧ ∃ R1 R2, R = R1 ++ R2 ∧ Q p.2 q.2 R1 ∧ zL Q a l R2
 | _, _, _ => False
def oX {κ γ : Type} (kenc : κ → Value) (Q : Value → γ → List (Nat × Obj) → Prop) (v : Value) (c : List (κ × Value)) (l : List (κ × γ)) (R : List (Nat × Obj)) : Prop :=
 ∃ a b, R = a ++ b ∧ na kenc (fun x => x) v c a ∧ zL Q c l b
section
variable {κ γ : Type} {Q : Value → γ → List (Nat × Obj) → Prop} {beq : κ → κ → Bool} {kenc : κ → Value}
theorem zL.keys : ∀ {a : List (κ × Value)} {l : List (κ × γ)} {R : List (Nat × Obj)}, zL Q a l R → a.map (·.1) = l.map (·.1)
 | [], [], _, _ => rfl
 | [], _ :: _, _, h => h.elim
 | _ :: _, [], _, h => h.elim
 | p :: a, q :: l, R, h => by
  obtain ⟨h1, R1, R2, _, _, b⟩ := h
  simp [h1, zL.keys b]
theorem zL.find {a : List (κ × Value)} {l : List (κ × γ)} {R : List (Nat × Obj)} (h : zL Q a l R) (k : κ) : a.findIdx? (fun p => beq k p.1) = l.findIdx? (fun p => beq k p.1) := by
 have h1 : (a.map (·.1)).findIdx? (fun x => beq k x) = (l.map (·.1)).findIdx? (fun x => beq k x) := by rw [h.keys]
 rw [jl, jl] at h1
 exact h1
theorem zL.get : ∀ {b : List (κ × Value)} {l : List (κ × γ)} {R : List (Nat × Obj)}, zL Q b l R → ∀ (i : Nat) (k : κ) (x : γ), l[i]? = some (k, x) →
  ∃ v A R1 B, b[i]? = some (k, v) ∧ R = A ++ (R1 ++ B) ∧ Q v x R1 ∧ ∀ k2 v2 x2 R2, Q v2 x2 R2 → zL Q (b.set i (k2, v2)) (l.set i (k2, x2)) (A ++ (R2 ++ B))
 | [], [], _, _, i, k, x, a => by simp at a
 | [], _ :: _, _, h, _, _, _, _ => h.elim
 | _ :: _, [], _, h, _, _, _, _ => h.elim
 | p :: b, q :: l, R, h, 0, k, x, a => by
  obtain ⟨h1, R1, R2, rfl, c, d⟩ := h
  simp at a
  subst a
  refine ⟨p.2, [], R1, R2, by simp only [jh]; exact bB some (Prod.ext h1 rfl), rfl, c, fun k2 v2 x2 R2' g => ⟨rfl, R2', R2, rfl, g, d⟩⟩
 | p :: b, q :: l, R, h, i + 1, k, x, a => by
  obtain ⟨h1, R1, R2, rfl, c, d⟩ := h
  simp at a
  obtain ⟨v, A, R1', B, g1, rfl, g3, g4⟩ := zL.get d i k x a
  exact ⟨v, R1 ++ A, R1', B, by simpa using g1, by simp, g3, fun k2 v2 x2 R2' g => ⟨h1, R1, A ++ (R2' ++ B), by simp, c, g4 k2 v2 x2 R2' g⟩⟩
theorem zL.push : ∀ {b : List (κ × Value)} {l : List (κ × γ)} {R : List (Nat × Obj)}, zL Q b l R → ∀ (k : κ) {v : Value} {x : γ} {R1 : List (Nat × Obj)}, Q v x R1 → zL Q (b ++ [(k, v)]) (l ++ [(k, x)]) (R ++ R1)
 | [], [], _, h, k, v, x, R1, a => by
  have g : _ = [] := h
  subst g
  exact ⟨rfl, R1, [], by simp, a, rfl⟩
 | [], _ :: _, _, h, _, _, _, _, _ => h.elim
 | _ :: _, [], _, h, _, _, _, _, _ => h.elim
 | p :: b, q :: l, R, h, k, v, x, R1, a => by
  obtain ⟨h1, c, d, rfl, i, j⟩ := h
  exact ⟨h1, c, d ++ R1, by simp, i, zL.push j k a⟩
theorem oX.found {r : Value} {c : List (κ × Value)} {l : List (κ × γ)} {R : List (Nat × Obj)} (hk : ∀ {x y : κ}, beq x y = true → x = y) (h : oX kenc Q r c l R) {k : κ} {x : γ} (b : nE beq l k = some x) :
  ∃ v A R1 B, nE beq c k = some v ∧ R = A ++ (R1 ++ B) ∧ Q v x R1 ∧ (∀ x2 R2, Q v x2 R2 → oX kenc Q r c (pu beq l k x2) (A ++ (R2 ++ B))) := by
 obtain ⟨o, w, rfl, s, q⟩ := h
 rw [AZ] at b
 cases d : l.findIdx? (fun p => beq k p.1) with
 | none => rw [d] at b; cases b
 | some i =>
  rw [d] at b
  obtain ⟨p, hp, t⟩ := ve d
  simp only [aA, hp, eO, iH] at b
  subst b
  have n := hk t
  obtain ⟨v, A, R1, B, g1, rfl, g3, g4⟩ := q.get i p.1 p.2 hp
  have g : c.findIdx? (fun p => beq k p.1) = some i := by rw [q.find k, d]
  refine ⟨v, o ++ A, R1, B, by rw [AZ, g]; simp [g1], by simp, g3, fun x2 R2 u => ⟨o, A ++ (R2 ++ B), by simp, s, ?_⟩⟩
  have a := g4 k v x2 R2 u
  have e : c.set i (k, v) = c := by
   apply fP
   intro j
   rw [gN]
   split
   ·rename_i m
    subst m
    rw [g1, n]
    simp [(bN.1 g1).1]
   ·rfl
  rw [e] at a
  rw [pu, d]
  exact a
theorem oX.PH {g : Value} {c : List (κ × Value)} {l : List (κ × γ)} {R : List (Nat × Obj)} (h : oX kenc Q g c l R) {k : κ} (a : nE beq l k = none) : nE beq c k = none := by
 obtain ⟨j, m, rfl, n, d⟩ := h
 rw [AZ] at a ⊢
 rw [d.find k]
 cases b : l.findIdx? (fun p => beq k p.1) with
 | none => rfl
 | some i =>
  rw [b] at a
  obtain ⟨p, hp, o⟩ := ve b
  simp [hp] at a
def uw (beq : κ → κ → Bool) (a : List (κ × Value)) (k : κ) (z : Value) : Value := (nE beq a k).getD z
variable {P : Program} {W : World} {kt : TypeId} {E : Nat → Value} {d : Option Nat} {ty : TypeId} {pos : String} {af : Array Edge} {g : Option (Nat × Bool)} {F : Nat → Prop} {w : World} {μ : mN} {L : List (Nat × Obj)}
theorem rG {t e : TypeId} {m x : Operand} {c z : Value} {a : List (κ × Value)} {l : List (κ × γ)} {R : List (Nat × Obj)} {k : κ} (K : qR P kt kenc beq) (r : P.underlying t = some (.map kt e)) (u : ∀ w, (zeroValue e).run P w = .ok z w) (hm : lY E m = c) (s : lY E x = kenc k) (n : oX kenc Q c a l R) (q : ∀ b o, (b, o) ∈ R → W.heap[b]? = some o) : nZ P E ⟨d, .lookup t m x false, ty, pos, af, g⟩ W (uw beq a k z) W := by
 obtain ⟨v, y, rfl, i, A⟩ := n
 have j := MP (d := d) (ty := ty) (pos := pos) (af := af) (g := g) K r u hm s (i.at (μ := hp W) (fun b o h => q b o (cK _ h)))
 simpa [uw] using j
variable {κ2 β : Type} {kenc2 : κ2 → Value} {vf : β → Value} {beq2 : κ2 → κ2 → Bool} {kt2 : TypeId}
theorem oX.Gb {i : Value} {c : List (κ × Value)} {l : List (κ × List (κ2 × β))} {R : List (Nat × Obj)} (hk : ∀ {x y : κ}, beq x y = true → x = y) (h : oX kenc (na kenc2 vf) i c l R) (k : κ) {μ : mN} (d : ∀ b o, (b, o) ∈ R → μ b = some o) :
  sS kenc2 vf μ (uw beq c k (.map none)) ((nE beq l k).getD []) := by
 cases a : nE beq l k with
 | none => rw [uw, h.PH a]; exact .inl ⟨rfl, rfl⟩
 | some x =>
  obtain ⟨v, A, R1, B, g1, rfl, g3, _⟩ := h.found hk a
  rw [uw, g1]
  exact g3.at (fun b o g => d b o (by simp [g]))
theorem oX.isNil {c : Value} {b : List (κ × Value)} {l : List (κ × List (κ2 × β))} {R : List (Nat × Obj)} (hk : ∀ {x y : κ}, beq x y = true → x = y) (h : oX kenc (na kenc2 vf) c b l R) (k : κ) :
  ∃ r, uw beq b k (.map none) = .map r ∧ r.isNone = (nE beq l k).isNone := by
 cases a : nE beq l k with
 | none => rw [uw, h.PH a]; exact ⟨none, rfl, rfl⟩
 | some x =>
  obtain ⟨v, A, R1, B, g1, rfl, g3, _⟩ := h.found hk a
  obtain ⟨m, es, clock, rfl, _⟩ := g3
  rw [uw, g1]
  exact ⟨_, rfl, rfl⟩
def IV {κ κ2 β : Type} (beq : κ → κ → Bool) (beq2 : κ2 → κ2 → Bool) (l : List (κ × List (κ2 × β))) (k : κ) (k2 : κ2) (x : β) : Option (List (κ × List (κ2 × β))) := (nE beq l k).map fun a => pu beq l k (pu beq2 a k2 x)
def Jm {κ γ : Type} (beq : κ → κ → Bool) (l : List (κ × γ)) (k : κ) (x : γ) : Option (List (κ × γ)) := if (nE beq l k).isNone then some (pu beq l k x) else none
theorem RI {o : Value → World → Prop} (X : List (Nat × Obj)) {Y R : List (Nat × Obj)} {t e : TypeId} {m x y : Operand} {r : Value} {n : List (κ × Value)} {l q : List (κ × List (κ2 × β))} {k : κ} {k2 : κ2} {v : β} (hk : ∀ {x y : κ}, beq x y = true → x = y) (K : qR P kt2 kenc2 beq2) (D : P.underlying t = some (.map kt2 e)) (c : ST dd F w W μ (X ++ (R ++ Y))) (h : oX kenc (na kenc2 vf) r n l R) (hm : lY E m = uw beq n k (.map none)) (G : lY E x = kenc2 k2) (I : lY E y = vf v) (b : IV beq beq2 l k k2 v = some q) (z : ∀ W' R', ST dd F w W' μ (X ++ (R' ++ Y)) → oX kenc (na kenc2 vf) r n q R' → o undef W') : pv P E ⟨d, .mapUpdate t m x y, ty, pos, af, g⟩ W o := by
 unfold IV at b
 cases i : nE beq l k with
 | none => rw [i] at b; cases b
 | some J =>
  rw [i] at b
  cases b
  obtain ⟨u, A, R1, B, g1, rfl, g3, g4⟩ := h.found hk i
  have j : lY E m = u := by rw [hm, uw, g1]; rfl
  have a : ST dd F w W μ ((X ++ A) ++ (R1 ++ (B ++ Y))) := by simpa using c
  refine Cq (X ++ A) K D a g3 j G I (fun W' R' h1 s => z W' (A ++ (R' ++ B)) ?_ (g4 _ _ s))
  simpa using h1
theorem Qw {v : Value → World → Prop} (X : List (Nat × Obj)) {Y R R2 : List (Nat × Obj)} {t e : TypeId} {m x y : Operand} {s : Value} {r : List (κ × Value)} {l G : List (κ × γ)} {k : κ} {u : Value} {z : γ} (K : qR P kt kenc beq) (Z : P.underlying t = some (.map kt e)) (o : ST dd F w W μ (X ++ (R ++ (R2 ++ Y)))) (h : oX kenc Q s r l R) (hm : lY E m = s) (hx : lY E x = kenc k) (hy : lY E y = u) (U : Q u z R2) (b : Jm beq l k z = some G) (O : ∀ W' R', ST dd F w W' μ (X ++ (R' ++ Y)) → oX kenc Q s (pu beq r k u) G R' → v undef W') : pv P E ⟨d, .mapUpdate t m x y, ty, pos, af, g⟩ W v := by
 unfold Jm at b
 cases j : nE beq l k with
 | some l2 => rw [j] at b; cases b
 | none =>
  rw [j] at b
  simp only [Option.isNone_none, aU, iH] at b
  subst b
  have T := h.PH j
  obtain ⟨J, n, rfl, L, M⟩ := h
  have c : ST dd F w W μ (X ++ (J ++ (n ++ (R2 ++ Y)))) := by simpa using o
  refine Cq X K Z c L hm hx hy (fun W' R' g1 g2 => O W' (R' ++ (n ++ R2)) (by simpa using g1) ⟨R', n ++ R2, rfl, g2, ?_⟩)
  have A : ∀ {I : Type} (q : List (κ × I)) (y : I), nE beq q k = none → pu beq q k y = q ++ [(k, y)] := fun q y a => by
   rw [AZ] at a
   rw [pu]
   cases D : q.findIdx? (fun p => beq k p.1) with
   | none => rfl
   | some i =>
    obtain ⟨p, hp, _⟩ := ve D
    rw [D] at a
    simp [hp] at a
  rw [A r u T, A l z j]
  exact M.push k U
end
end Go.Proofs.YtklbhegeiijbjaaGreat
namespace Go.Proofs.YtklbhegeiijbjaaGreat
open Go.RowKit
variable {dd : Bool}
section
variable {κ γ : Type} {Q : Value → γ → List (Nat × Obj) → Prop} {beq : κ → κ → Bool} {kenc : κ → Value}
theorem tU {a : Type} {l : List (κ × a)} {k : κ} {i : Nat} (h : l.findIdx? (fun p => beq k p.1) = some i) (x : a) : pu beq l k x = l.set i (k, x) := by rw [pu, h]
theorem yh {a : Type} {l : List (κ × a)} {k : κ} (h : l.findIdx? (fun p => beq k p.1) = none) (x : a) : pu beq l k x = l ++ [(k, x)] := by rw [pu, h]
theorem GX {a : Type} {l : List (κ × a)} {k : κ} (h : l.findIdx? (fun p => beq k p.1) = none) : nE beq l k = none := by rw [AZ, h]; rfl
theorem Ga {a : Type} {l : List (κ × a)} {k : κ} {i : Nat} {p : κ × a} (h : l.findIdx? (fun p => beq k p.1) = some i) (hp : l[i]? = some p) : nE beq l k = some p.2 := by rw [AZ, h]; simp [hp]
def P0 (beq : κ → κ → Bool) (kenc : κ → Value) (Q : Value → γ → List (Nat × Obj) → Prop) (c : Value) (b : List (κ × Value)) (l : List (κ × γ)) (k : κ) (R : List (Nat × Obj)) : Prop :=
 ∃ a A B, R = a ++ (A ++ B) ∧ na kenc (fun x => x) c b a ∧ ∀ v x R1, Q v x R1 → zL Q (pu beq b k v) (pu beq l k x) (A ++ (R1 ++ B))
theorem oX.open (hk : ∀ {x y : κ}, beq x y = true → x = y) {q z : Value} {x0 : γ} (j : Q z x0 []) {m : List (κ × Value)} {l : List (κ × γ)} {R : List (Nat × Obj)} (h : oX kenc Q q m l R) (k : κ) :
  ∃ R' R1, R.Perm (R' ++ R1) ∧ Q (uw beq m k z) ((nE beq l k).getD x0) R1 ∧ P0 beq kenc Q q m l k R' := by
 obtain ⟨c, n, rfl, o, d⟩ := h
 have b := d.find (beq := beq) k
 cases a : l.findIdx? (fun p => beq k p.1) with
 | none =>
  rw [a] at b
  refine ⟨c ++ n, [], by simp, ?_, c, n, [], by simp, o, fun v x R1 g => ?_⟩
  ·rw [uw, GX a, GX b]; exact j
  ·rw [yh a, yh b]; simpa using d.push k g
 | some i =>
  rw [a] at b
  obtain ⟨p, hp, r⟩ := ve a
  have s := hk r
  obtain ⟨v, A, R1, B, g1, rfl, g3, g4⟩ := d.get i p.1 p.2 hp
  refine ⟨c ++ (A ++ B), R1, ?_, ?_, c, A, B, rfl, o, fun v2 x2 R2 g => ?_⟩
  ·rw [aR, aR]
   refine cF _ (cF _ gJ)
  ·rw [uw, Ga a hp, Ga b g1]; exact g3
  ·rw [tU a, tU b]; exact g4 k v2 x2 R2 g
variable {P : Program} {W : World} {kt : TypeId} {E : Nat → Value} {d : Option Nat} {ty : TypeId} {pos : String} {af : Array Edge} {g : Option (Nat × Bool)} {F : Nat → Prop} {w : World} {μ : mN} {L : List (Nat × Obj)}
theorem VU {i : Value → World → Prop} (X : List (Nat × Obj)) {Y R R1 : List (Nat × Obj)} {t e : TypeId} {m x y : Operand} {c : Value} {j : List (κ × Value)} {l : List (κ × γ)} {k : κ} {u : Value} {z : γ} (K : qR P kt kenc beq) (v : P.underlying t = some (.map kt e)) (b : ST dd F w W μ (X ++ (R ++ (R1 ++ Y)))) (h : P0 beq kenc Q c j l k R) (hm : lY E m = c) (D : lY E x = kenc k) (G : lY E y = u) (s : Q u z R1) (r : ∀ W' R', ST dd F w W' μ (X ++ (R' ++ Y)) → oX kenc Q c (pu beq j k u) (pu beq l k z) R' → i undef W') : pv P E ⟨d, .mapUpdate t m x y, ty, pos, af, g⟩ W i := by
 obtain ⟨n, A, B, rfl, o, q⟩ := h
 have a : ST dd F w W μ (X ++ (n ++ (A ++ (B ++ (R1 ++ Y))))) := by simpa using b
 refine Cq X K v a o hm D G (fun W' R' g1 g2 => r W' (R' ++ (A ++ (R1 ++ B))) ?_ ⟨R', A ++ (R1 ++ B), rfl, g2, q u z R1 s⟩)
 refine g1.perm ?_
 simp only [aR]
 refine cF _ (cF _ (cF _ ?_))
 rw [← aR, ← aR]
 exact jm _ gJ
def MA (beq : κ → κ → Bool) (kenc : κ → Value) (Q : Value → γ → List (Nat × Obj) → Prop) (b : Value) (l : List (κ × γ)) (k : κ) (c : Nat) (R : List (Nat × Obj)) : Prop :=
 ∃ m es clock a A B i e, b = .map (some m) ∧ R = (m, .map es clock) :: (A ++ B) ∧ xN kenc (fun x => x) a es clock ∧ es[i]? = some e ∧ e.born = c ∧ a.findIdx? (fun p => beq k p.1) = some i ∧
  ∀ v x R1, Q v x R1 → zL Q (pu beq a k v) (pu beq l k x) (A ++ (R1 ++ B))
theorem Lj {g : Type} (hk : ∀ x : κ, beq x x = true) (d : List (κ × g)) (k : κ) (a b : g) : pu beq (pu beq d k a) k b = pu beq d k b := by
 cases c : d.findIdx? (fun p => beq k p.1) with
 | none =>
  have h1 : (d ++ [(k, a)]).findIdx? (fun p => beq k p.1) = some d.length := by
   rw [jJ, c]
   simp [gH, hk]
  rw [yh c, yh c, tU h1]
  simp
 | some i =>
  obtain ⟨p, hp, n⟩ := ve c
  have h1 : (d.set i (k, a)).findIdx? (fun p => beq k p.1) = some i := by
   rw [fC] at c ⊢
   obtain ⟨h1, m, h⟩ := c
   refine ⟨by simpa using h1, by simp [hk], fun j l => ?_⟩
   rw [List.getElem_set_ne (by omega)]
   exact h j l
  rw [tU c, tU c, tU h1]
  simp
end
end Go.Proofs.YtklbhegeiijbjaaGreat
namespace Go.Proofs.YtklbhegeiijbjaaGreat
open Go.RowKit
variable {dd : Bool}
section
variable {κ γ : Type} {Q : Value → γ → List (Nat × Obj) → Prop} {beq : κ → κ → Bool} {kenc : κ → Value}
variable {P : Program} {W : World} {kt : TypeId} {E : Nat → Value} {d : Option Nat} {ty : TypeId} {pos : String} {af : Array Edge} {g : Option (Nat × Bool)} {F : Nat → Prop} {w : World} {μ : mN} {L : List (Nat × Obj)}
theorem G2 {es : Array MapEntry} {i : Nat} {f b : MapEntry → MapEntry} (h : ∀ e, es[i]? = some e → f e = b e) : es.modify i f = es.modify i b := by
 apply Array.ext_getElem?
 intro j
 rw [eS, eS]
 split
 ·rename_i a
  subst a
  cases he : es[i]? with
  | none => rfl
  | some e => simp [h e he]
 ·rfl
theorem xN.val {b : List (κ × Value)} {es : Array MapEntry} {clock : Nat} (h : xN kenc (fun x => x) b es clock) {i : Nat} {e : MapEntry} (he : es[i]? = some e) : ∃ p, b[i]? = some p ∧ e.key = kenc p.1 ∧ e.val = p.2 := by
 have a := bB (fun q => q[i]?) h.H4
 simp only [gO, eA, he, eO] at a
 cases hp : b[i]? with
 | none => rw [hp] at a; cases a
 | some p =>
  rw [hp] at a
  simp only [eO, iH, Prod.mk.injEq] at a
  exact ⟨p, rfl, a.1, a.2⟩
theorem PP {Kk : Value → World → Prop} (X : List (Nat × Obj)) {Y R : List (Nat × Obj)} {t e : TypeId} {m x : Operand} {mv z : Value} {x0 : γ} {lv : List (κ × Value)} {l : List (κ × γ)} {k : κ} (hk : ∀ {x y : κ}, beq x y = true ↔ x = y) (K : qR P kt kenc beq) (ht : P.underlying t = some (.map kt e)) (hz : ∀ w, (zeroValue e).run P w = .ok z w) (aa : Q z x0 []) (M : ST dd F w W μ (X ++ (R ++ Y))) (h : oX kenc Q mv lv l R) (hm : lY E m = mv) (hx : lY E x = kenc k) (hK : ∀ W' v st R' R1, ST dd F w W' μ (X ++ (R' ++ (R1 ++ Y))) → Q v ((nE beq l k).getD x0) R1 → MA beq kenc Q mv l k st R' → Kk (.tuple #[v, .int .i64 (st : Nat)]) W') : pv P E ⟨d, .mapEntry t m x, ty, pos, af, g⟩ W Kk := by
 obtain ⟨Rm, Rv, rfl, ⟨n, es, clock, rfl, rfl, o⟩, L⟩ := h
 have hb : W.heap[n]? = some (.map es clock) := (M.box n (.map es clock) (by simp)).1
 have h5 : (getObj n : Sem Obj).run P W = .ok (.map es clock) W := by simp [getObj, Sem.run, hb]
 have I := K.find k _ _ o.keys W
 rw [o.get k] at I
 have u := L.find (beq := beq) k
 have s : ∀ W' v, (Instr.mapEntry t (.map (some n)) (kenc k)).run P W = .ok v W' → (execOp (lY E) ⟨d, .mapEntry t m x, ty, pos, af, g⟩).run P W = .ok (.value v) W' := by
  intro W' v hr
  show (do pure (.value (← Instr.mapEntry t (lY E m) (lY E x))) : Sem Next).run P W = _
  rw [hm, hx]
  simp [hr]
 have r : ST dd F w W μ (X ++ (n, .map es clock) :: (Rv ++ Y)) := by simpa using M
 cases b : lv.findIdx? (fun p => beq k p.1) with
 | none =>
  rw [b] at I u
  have a := o.put (beq := beq) k z
  rw [b] at a
  refine .inl ⟨_, ChangeMaps.setBlock W n (.map (es.push { key := kenc k, val := z, born := clock }) (clock + 1)), s _ (.tuple #[z, .int .i64 (clock : Nat)]) ?_, hK _ z clock ((n, .map (es.push { key := kenc k, val := z, born := clock }) (clock + 1)) :: (Rv ++ [])) [] ?_ ?_ ?_⟩
  ·simp [Instr.mapEntry, aX ht, h5, K.check, I, Bl hb, hz _, goInt]
  ·have := r.setBlock (.map (es.push { key := kenc k, val := z, born := clock }) (clock + 1))
   simpa using this
  ·rw [GX u.symm]; exact aa
  ·refine ⟨n, _, _, lv ++ [(k, z)], Rv, [], es.size, { key := kenc k, val := z, born := clock }, rfl, rfl, a, by simp, rfl, ?_, fun v x R1 hq => ?_⟩
   ·rw [jJ, b]
    have a7 := o.length
    simp [gH, hk, a7]
   ·rw [← yh b, Lj (fun x => hk.2 rfl), yh b, yh u.symm]
    simpa using L.push k hq
 | some i =>
  rw [b] at I u
  obtain ⟨p, hp, a8⟩ := ve b
  obtain ⟨q, a6, O⟩ := ve u.symm
  have ad := hk.1 O
  obtain ⟨v, A, R1, B, g1, rfl, g3, g4⟩ := L.get i q.1 q.2 a6
  have a1 : p.2 = v := by rw [g1] at hp; cases hp; rfl
  have a7 := o.length
  have ab : i < lv.length := (bN.1 hp).1
  obtain ⟨J, c⟩ : ∃ J, es[i]? = some J := ⟨es[i], Array.getElem?_eq_getElem (by omega)⟩
  obtain ⟨p', Z, D, G⟩ := o.val c
  rw [hp] at Z
  cases Z
  simp only [aA, hp, eO] at I
  have a := o.put (beq := beq) k v
  rw [b] at a
  have T : ((es[i]?).map (·.key)).getD (kenc k) = kenc k := by
   rw [c]
   simp only [eO, jB, D]
   exact K.eq k p.1 a8
  have U : es.modify i (fun e => { e with key := kenc k }) = es.modify i (fun e => { e with key := kenc k, val := v }) := G2 fun e he => by
   rw [c] at he; cases he
   rw [← a1, ← G]
  refine .inl ⟨_, ChangeMaps.setBlock W n (.map (es.modify i fun e => { e with key := kenc k, val := v }) clock), s _ (.tuple #[v, .int .i64 (J.born : Nat)]) ?_, hK _ v J.born ((n, .map (es.modify i fun e => { e with key := kenc k, val := v }) clock) :: (A ++ B)) R1 ?_ ?_ ?_⟩
  ·simp only [Instr.mapEntry, cN, aX ht, h5, K.check, I, bW, T, Instr.keyThatStays, K.bits, aU, dP]
   rw [Bl hb, U]
   simp [c, goInt, a1]
  ·have := r.setBlock (.map (es.modify i fun e => { e with key := kenc k, val := v }) clock)
   refine this.perm ?_
   simp only [aR, cJ]
   refine cF _ (List.Perm.cons _ (cF _ ?_))
   rw [← aR, ← aR]
   exact jm _ gJ
  ·rw [Ga u.symm a6]; exact g3
  ·refine ⟨n, _, _, lv.set i (k, v), A, B, i, { J with key := kenc k, val := v }, rfl, rfl, a, ?_, rfl, ?_, fun v2 x2 R2 hq => ?_⟩
   ·rw [eS, aZ rfl, c]; rfl
   ·rw [fC] at b ⊢
    obtain ⟨h1, o, L⟩ := b
    refine ⟨by simpa using h1, by simp [hk], fun j hj => ?_⟩
    rw [List.getElem_set_ne (by omega)]
    exact L j hj
   ·rw [← tU b, Lj (fun x => hk.2 rfl), tU b, tU u.symm]
    exact g4 k v2 x2 R2 hq
theorem Q3 {es : Array MapEntry} (h : es.toList.Pairwise (fun a b => a.born < b.born)) {i : Nat} {e : MapEntry} (he : es[i]? = some e) : es.findIdx? (fun a => (a.born : Int) == (e.born : Int)) = some i := by
 rw [Array.findIdx?_eq_some_iff_getElem]
 obtain ⟨d, c⟩ := dV.1 he
 refine ⟨d, by rw [c]; simp, fun j g => ?_⟩
 have := List.pairwise_iff_getElem.1 h j i (by simpa using Nat.lt_trans g d) (by simpa using d) g
 simp only [Array.getElem_toList] at this
 rw [c] at this
 simp
 omega
theorem NQ {U : Value → World → Prop} (X : List (Nat × Obj)) {Y R R1 : List (Nat × Obj)} {t e : TypeId} {m s y : Operand} {T u : Value} {z : γ} {l : List (κ × γ)} {k : κ} {st : Nat} (hk : ∀ {x y : κ}, beq x y = true ↔ x = y) (K : qR P kt kenc beq) (o : ST dd F w W μ (X ++ (R ++ (R1 ++ Y)))) (h : MA beq kenc Q T l k st R) (hm : lY E m = T) (hs : lY E s = .int .i64 (st : Nat)) (hy : lY E y = u) (hq : Q u z R1) (hK : ∀ W' O R', ST dd F w W' μ (X ++ (R' ++ Y)) → oX kenc Q T O (pu beq l k z) R' → U undef W') : pv P E ⟨d, .entryStore t m s y, ty, pos, af, g⟩ W U := by
 obtain ⟨b, es, clock, lv, A, B, i, en, rfl, rfl, I, j, c, L, h3⟩ := h
 have Z : W.heap[b]? = some (.map es clock) := (o.box b (.map es clock) (by simp)).1
 have h5 : (getObj b : Sem Obj).run P W = .ok (.map es clock) W := by simp [getObj, Sem.run, Z]
 obtain ⟨p, hp, J⟩ := ve L
 obtain ⟨p', G, n, M⟩ := I.val j
 rw [hp] at G
 cases G
 have a := I.put (beq := beq) k u
 rw [L] at a
 have D : es.modify i (fun e => { e with val := u }) = es.modify i (fun e => { e with key := kenc k, val := u }) := G2 fun e he => by
  rw [j] at he; cases he
  have r : en.key = kenc k := by rw [n]; exact K.eq k p.1 J
  rw [← r]
 have v := Q3 I.born j
 rw [c] at v
 have q : ST dd F w W μ (X ++ (b, .map es clock) :: (A ++ (B ++ (R1 ++ Y)))) := by simpa using o
 refine .inr (.inl ⟨ChangeMaps.setBlock W b (.map (es.modify i fun e => { e with key := kenc k, val := u }) clock), ?_, hK _ (pu beq lv k u) ((b, .map (es.modify i fun e => { e with key := kenc k, val := u }) clock) :: (A ++ (R1 ++ B))) ?_ ⟨[(b, .map (es.modify i fun e => { e with key := kenc k, val := u }) clock)], A ++ (R1 ++ B), rfl, ⟨b, _, _, rfl, rfl, ?_⟩, h3 u z R1 hq⟩⟩)
 ·show (do Instr.entryStore t (lY E m) (lY E s) (lY E y); pure .skip : Sem Next).run P W = _
  rw [hm, hs, hy]
  simp only [Instr.entryStore, cN, h5, bW, asInt, asIntOf, dP, v]
  rw [Bl Z, D]
  rfl
 ·have := q.setBlock (.map (es.modify i fun e => { e with key := kenc k, val := u }) clock)
  refine this.perm ?_
  simp only [aR, cJ]
  refine cF _ (List.Perm.cons _ (cF _ ?_))
  rw [← aR, ← aR]
  exact jm _ gJ
 ·rw [tU L]; exact a
end
end Go.Proofs.YtklbhegeiijbjaaGreat
namespace Go.Proofs.YtklbhegeiijbjaaGreat
open Go.RowKit
variable {dd : Bool}
section
variable {κ γ : Type} {Q : Value → γ → List (Nat × Obj) → Prop} {beq : κ → κ → Bool} {kenc : κ → Value}
def nV (kenc : κ → Value) (Q : Value → γ → List (Nat × Obj) → Prop) (v : Value) (l : List (κ × γ)) (R : List (Nat × Obj)) : Prop := ∃ a, oX kenc Q v a l R
def uA (kenc : κ → Value) (Q : Value → γ → List (Nat × Obj) → Prop) (μ : mN) (v : Value) (l : List (κ × γ)) : Prop := ∃ a R, oX kenc Q v a l R ∧ ∀ b o, (b, o) ∈ R → μ b = some o
theorem nV.at {v : Value} {l : List (κ × γ)} {R : List (Nat × Obj)} {μ : mN} (h : nV kenc Q v l R) (a : ∀ b o, (b, o) ∈ R → μ b = some o) : uA kenc Q μ v l := let ⟨c, h⟩ := h; ⟨c, R, h, a⟩
theorem uA.mono {v : Value} {l : List (κ × γ)} {μ μ' : mN} (h : uA kenc Q μ v l) (d : mx μ μ') : uA kenc Q μ' v l := let ⟨g, R, h, a⟩ := h; ⟨g, R, h, fun b o c => d _ _ (a b o c)⟩
theorem oX.form {v : Value} {a : List (κ × Value)} {l : List (κ × γ)} {R : List (Nat × Obj)} (h : oX kenc Q v a l R) : ∃ m, v = .map (some m) := let ⟨_, _, _, h, _⟩ := h; h.form
theorem oX.e {v : Value} {a : List (κ × Value)} {l : List (κ × γ)} {R : List (Nat × Obj)} (h : oX kenc Q v a l R) : nV kenc Q v l R := ⟨a, h⟩
theorem nV.form {v : Value} {l : List (κ × γ)} {R : List (Nat × Obj)} (h : nV kenc Q v l R) : ∃ m, v = .map (some m) := let ⟨_, h⟩ := h; h.form
theorem nV.new {v : Value} {R : List (Nat × Obj)} (h : na (β := Value) kenc (fun x => x) v [] R) : nV kenc Q v [] R := ⟨[], R, [], (bT R).symm, h, rfl⟩
theorem oX.rowAt {α : Type} {e : TypeId} {enc : α → List Value} {n : Nat} {g : Value} {c : List (κ × Value)} {l : List (κ × List α)} {R : List (Nat × Obj)} (hk : ∀ {x y : κ}, beq x y = true → x = y) (h : oX kenc (mw e enc n) g c l R) (k : κ) :
  ∃ R1, mw e enc n (uw beq c k (.slice none 0 0)) ((nE beq l k).getD []) R1 ∧ ∀ b o, (b, o) ∈ R1 → (b, o) ∈ R := by
 cases a : nE beq l k with
 | none => refine ⟨[], ?_, fun b o h => by cases h⟩; rw [uw, h.PH a]; exact .inl ⟨rfl, rfl, rfl⟩
 | some x =>
  obtain ⟨v, A, R1, B, g1, rfl, g3, _⟩ := h.found hk a
  refine ⟨R1, ?_, fun b o d => by simp [d]⟩
  rw [uw, g1]; exact g3
theorem mw.Fj {α : Type} {e : TypeId} {enc : α → List Value} {k : Nat} {v : Value} {l : List α} {R : List (Nat × Obj)} (h : mw e enc k v l R) (hk : ∀ x, (enc x).length = k) : Sl (Pl enc) k (Ca R) v l := by
 refine h.sl hk (fun b o a => ?_)
 rcases h with ⟨rfl, rfl, rfl⟩ | ⟨g, cap, c, rfl, rfl, _⟩
 ·cases a
 ·simp at a; obtain ⟨rfl, rfl⟩ := a; simp [Ca]
end
theorem qc.hp (W : World) : qc (hp W) [] W := ⟨fun _ _ h => h, fun _ _ h => by cases h⟩
section
variable {P : Program} {W : World} {E : Nat → Value} {d : Option Nat} {ty : TypeId} {pos : String} {af : Array Edge} {g : Option (Nat × Bool)} {F : Nat → Prop} {w : World} {μ : mN} {L : List (Nat × Obj)}
theorem Kp {t k e : TypeId} (dd : Nat) (b : P.underlying t = some (.map k e)) (a : Option Nat) (W : World) : (Op.equalIn (dd + 1) t (.map a) (.map none)).run P W = .ok a.isNone W := by
 cases a <;> simp [Op.equalIn, aX b]
theorem P6 {a m k e : TypeId} {x y : Operand} {r : Option Nat} {b : Bool} (i : P.underlying a = some (.map k e)) (j : lY E x = .map r) (l : lY E y = .map none) (h : r.isNone = b) :
  nZ P E ⟨d, .binOp .eql a x y m, ty, pos, af, g⟩ W (.bool b) W := by
 subst h
 show (do let r ← (do eqGuard .eql a x y (lY E x) (lY E y); binOp .eql a (lY E x) (lY E y)); pure (.value r) : Sem Next).run P W = _
 rw [j, l]
 have c := Kp 9999 i r W
 simp [eqGuard, binOp, Op.equal, show Op.maxDepth = 9999 + 1 from rfl, c]
theorem N8 {κ κ2 β : Type} {kenc : κ → Value} {kenc2 : κ2 → Value} {vf : β → Value} {beq : κ → κ → Bool} {b o kt e : TypeId} {x y : Operand} {n : Value} {a : List (κ × Value)} {l : List (κ × List (κ2 × β))} {R : List (Nat × Obj)} {k : κ} (hk : ∀ {x y : κ}, beq x y = true → x = y) (i : P.underlying b = some (.map kt e)) (h : oX kenc (na kenc2 vf) n a l R) (j : lY E x = uw beq a k (.map none)) (m : lY E y = .map none) :
  nZ P E ⟨d, .binOp .eql b x y o, ty, pos, af, g⟩ W (.bool (nE beq l k).isNone) W := by
 obtain ⟨r, h1, c⟩ := h.isNil hk k
 exact P6 i (j.trans h1) m c
theorem FQ {κ γ : Type} {b : Value → World → Prop} {t : TypeId} (kenc : κ → Value) (Q : Value → γ → List (Nat × Obj) → Prop) (a : ST dd F w W μ L) (h : ∀ W' v R, ST dd F w W' μ (R ++ L) → nV kenc Q v [] R → b v W') : pv P E ⟨d, .makeMap t none, ty, pos, af, g⟩ W b :=
 CA kenc (fun x : Value => x) a (fun W' v R h1 c => h W' v R h1 (nV.new c))
end
def sy {α : Type} (e : TypeId) (enc : α → List Value) (k : Nat) (v : Value) (l : List α) (R : List (Nat × Obj)) : Prop :=
 (v = .slice none 0 0 ∧ l = [] ∧ R = []) ∨
 ∃ g off cap a, v = .slice (some ⟨g, off, none⟩) l.length cap ∧ R = [(g, .cells a e (0, 0))] ∧ l.length ≤ cap ∧ cap ≤ maxLen ∧ off + cap * k ≤ a.size ∧ (a.toList.drop off).take (l.length * k) = (l.map enc).flatten
section
variable {α : Type} {e : TypeId} {enc : α → List Value} {k : Nat} {v : Value} {l : List α} {R : List (Nat × Obj)}
theorem sy.nil (e : TypeId) (enc : α → List Value) (k : Nat) : sy e enc k (.slice none 0 0) [] [] := .inl ⟨rfl, rfl, rfl⟩
theorem mw.WW (h : mw e enc k v l R) : sy e enc k v l R := by
 rcases h with h | ⟨g, cap, a, h1, b, c, d, j, i⟩
 ·exact .inl h
 ·exact .inr ⟨g, 0, cap, a, h1, b, c, d, by omega, by simpa using i⟩
theorem sy.len (h : sy e enc k v l R) : l.length ≤ 9223372036854775807 := by
 rcases h with ⟨rfl, rfl, rfl⟩ | ⟨g, off, cap, a, rfl, rfl, h1, b, _⟩
 ·simp
 ·unfold maxLen at b; omega
theorem sy.form (h : sy e enc k v l R) : ∃ A c, v = .slice A l.length c := by
 rcases h with ⟨rfl, rfl, rfl⟩ | ⟨g, off, cap, a, rfl, rfl, _⟩
 ·exact ⟨_, _, rfl⟩
 ·exact ⟨_, _, rfl⟩
theorem sy.Fj (h : sy e enc k v l R) (hk : ∀ x, (enc x).length = k) : Sl (Pl enc) k (Ca R) v l := by
 rcases h with ⟨rfl, rfl, rfl⟩ | ⟨g, off, cap, a, rfl, rfl, h1, c, o, d⟩
 ·exact Sl.nil _ _ _
 ·refine ⟨_, cap, rfl, h1, c, fun _ => ⟨g, off, a, e, (0, 0), rfl, by simp [Ca], fun i x m => ⟨enc x, hk x, rfl, fun j y n => ?_⟩⟩⟩
  have := zH hk l i x m j y n
  rw [← d] at this
  have b : i * k + j < l.length * k := by
   have := (bN.1 this).1
   simp at this; omega
  rw [eT b, eJ] at this
  simpa [fL] using this
variable {P : Program} {W : World} {E : Nat → Value} {d : Option Nat} {ty : TypeId} {pos : String} {af : Array Edge} {g : Option (Nat × Bool)} {F : Nat → Prop} {w : World} {μ : mN} {L : List (Nat × Obj)}
theorem SY {x : Operand} {t a : TypeId} (b : P.underlying t = some (.slice a)) (i : lY E x = v) (h : sy e enc k v l R) : nZ P E ⟨d, .call ⟨.builtin .len, #[x], #[t]⟩, ty, pos, af, g⟩ W (.int .i64 l.length) W := by
 obtain ⟨A, c, rfl⟩ := h.form
 exact Ac b i
theorem PC {t o : TypeId} {x m : Operand} {J : IntKind} {i : Int} (y : P.underlying t = some (.slice o)) (he : ∀ w, (sizeOf o).run P w = .ok k w) (z : lY E x = v) (r : lY E m = .int J i) (hk : ∀ x, (enc x).length = k) (h : sy e enc k v l R) (A : 0 ≤ i) (s : i ≤ l.length) :
  ∃ u, sy e enc k u (l.drop i.toNat) R ∧ ∀ W, nZ P E ⟨d, .slice t x (some m) none none, ty, pos, af, g⟩ W u W := by
 rcases h with ⟨rfl, rfl, rfl⟩ | ⟨j, off, cap, b, rfl, rfl, h1, L, M, D⟩
 ·have : i = 0 := by simp at s; omega
  subst this
  refine ⟨.slice none 0 0, by simpa using sy.nil e enc k, fun W => ?_⟩
  show (do pure (.value (← Instr.sliceAt t (lY E x) (some (lY E m)) none none)) : Sem Next).run P W = _
  rw [z, r]
  simp [Instr.sliceAt, Instr.slice, Instr.sliceBounds, Instr.sliceBound, asIntOf, aX y, he W]
 ·refine ⟨.slice (some (if cap = i.toNat then ⟨j, off, none⟩ else (Addr.add ⟨j, off, none⟩ (i.toNat * k)))) (l.length - i.toNat) (cap - i.toNat), .inr ?_, fun W => ?_⟩
  ·have a : (l.drop i.toNat).length = l.length - i.toNat := by simp
   have c : (l.map enc).flatten.drop (i.toNat * k) = ((l.drop i.toNat).map enc).flatten := by
    have F : l = l.take i.toNat ++ l.drop i.toNat := (iE _ _).symm
    have G : ((l.take i.toNat).map enc).flatten.length = i.toNat * k := by rw [sJ hk, cX, dU (by omega)]
    conv => lhs; rw [F, cM, cY]
    rw [← G, List.drop_left]
   by_cases q : cap = i.toNat
   ·rw [aZ q]
    have n : l.drop i.toNat = [] := List.drop_eq_nil_of_le (by omega)
    refine ⟨j, off, cap - i.toNat, b, by rw [n]; simp; omega, rfl, by rw [n]; simp, by omega, by have : (cap - i.toNat) * k ≤ cap * k := cR _ (by omega); omega, by rw [n]; simp⟩
   ·rw [aY q]
    refine ⟨j, off + i.toNat * k, cap - i.toNat, b, by rw [a, eE], rfl, by rw [a]; omega, by omega, ?_, ?_⟩
    ·have : i.toNat * k + (cap - i.toNat) * k = cap * k := by rw [← cU]; congr 1; omega
     omega
    ·rw [a, ← c, ← D, ke, List.drop_drop, Nat.sub_mul]
  ·show (do pure (.value (← Instr.sliceAt t (lY E x) (some (lY E m)) none none)) : Sem Next).run P W = _
   rw [z, r]
   have I : 0 ≤ i ∧ i ≤ (l.length : Int) := ⟨A, s⟩
   simp [Instr.sliceAt, Instr.slice, Instr.sliceBounds, Instr.sliceBound, asIntOf, aX y, he W, I]
   split <;> rfl
theorem Oc {K : Value → World → Prop} {t : TypeId} {a6 : Nat} {z vs : Value} {m r : List α} (X : List (Nat × Obj)) {Y : List (Nat × Obj)} {x y : Operand} {i : TypeInfo} (a7 : ST dd F w W μ (X ++ (R ++ Y))) (hk : ∀ x, (enc x).length = k) (ak : 0 < k) (h1 : ∀ x, ∀ u ∈ enc x, u.oneCell' = true) (ht : P.underlying t = some (.slice e)) (hi : P.info? e = some i) (hz : i.zero = some z) (ab : z.cells.size = k) (a1 : i.size = k) (a8 : i.bytes = a6) (hx : lY E x = v) (hy : lY E y = vs) (hR : sy e enc k v l R) (hs : Sl (Pl enc) k (hp W) vs m) (hb : oH a6 l m = some r) (h : ∀ W' v' R', ST dd F w W' μ (X ++ (R' ++ Y)) → sy e enc k v' r R' → K v' W') : pv P E ⟨d, .call ⟨.builtin .append, #[x, y], #[t, t]⟩, ty, pos, af, g⟩ W K := by
 rcases hR with ⟨rfl, rfl, rfl⟩ | ⟨D, off, cap, s, rfl, rfl, h2, h3, h4, h5⟩
 ·exact M4 X a7 hk ak h1 ht hi hz ab a1 a8 hx hy (mw.nil e enc k) hs hb (fun W' v' R' a b => h W' v' R' a b.WW)
 unfold oH at hb
 split at hb
 case isFalse => cases hb
 rename_i Z
 cases hb
 have U : ∀ (V : Value) (W' : World), (Builtin.append_ #[t, t] ty #[.slice (some ⟨D, off, none⟩) l.length cap, vs]).run P W = .ok V W' → (execOp (lY E) ⟨d, .call ⟨.builtin .append, #[x, y], #[t, t]⟩, ty, pos, af, g⟩).run P W = .ok (.value V) W' := by
  intro V W' hV
  show (do let d ← resolve (lY E) ⟨.builtin .append, #[x, y], #[t, t]⟩ ty; invoke d.target d.args : Sem Next).run P W = _
  simp [resolve, invoke, builtin, hx, hy, hV]
 obtain ⟨A, c, rfl, ap, aq, ah⟩ := hs
 have L : ST dd F w W μ (X ++ (D, .cells s e (0, 0)) :: Y) := by simpa using a7
 have hg : W.heap[D]? = some (.cells s e (0, 0)) := (L.box D _ (by simp)).1
 have J := sJ hk l
 have Q : ∀ u ∈ (m.map enc).flatten, u.oneCell' = true := by
  intro u hu
  obtain ⟨ys, ao, an⟩ := la.1 hu
  obtain ⟨x, _, rfl⟩ := bJ.1 ao
  exact h1 x u an
 have I : Src P i.size t (.slice A m.length c) m.length ((m.map enc).flatten) W := by
  rw [a1]
  rcases fJ m.length with h0 | h0
  ·have hm : m = [] := aW h0
   subst hm
   cases A with
   | none => exact Src.ofNil W ht c
   | some ad => exact Src.ofSlice W ht ad 0 c [] (by simp) (fun j u hu => by simp at hu) (fun u hu => by cases hu)
  ·obtain ⟨b, o, cs, T, fr, rfl, h6, h7⟩ := ah h0
   refine Src.ofSlice W ht _ _ c _ (sJ hk m) (fun j u hu => ?_) Q
   obtain ⟨i, x, q, h8, h9, rfl⟩ := Jf hk m j u hu
   obtain ⟨ys, _, ae, ag⟩ := h7 i x h8
   cases ae
   rw [eE, jg W b (o + (i * k + q)) cs T fr h6, ← fL]
   exact ag q u h9
 have n := sJ hk m
 have O : ((l ++ m).map enc).flatten = (l.map enc).flatten ++ (m.map enc).flatten := by simp
 generalize (m.map enc).flatten = fm at I Q n O
 subst a1
 have ar : l.length * i.size ≤ cap * i.size := cR _ h2
 by_cases G : l.length + m.length ≤ cap
 ·have au : l.length * i.size + m.length * i.size ≤ cap * i.size := by rw [← cU]; exact cR _ G
  have aa := kD (P := P) D (off + l.length * i.size) e fm 0 s W hg (by rw [n]; omega) Q
  have M : (Builtin.append_ #[t, t] ty #[.slice (some ⟨D, off, none⟩) l.length cap, .slice A m.length c]).run P W = .ok (.slice (some ⟨D, off, none⟩) (l.length + m.length) cap) (W.setRow D (s.toList.take (off + l.length * i.size) ++ fm ++ s.toList.drop (off + l.length * i.size + fm.length)).toArray) := by
   simp [Builtin.append_, aX ht, sizeOf, typeInfo, hi, I.len, G, I.cells, eE]
   simp only [jX] at aa
   rw [aa]
   simp
  refine .inl ⟨_, _, U _ _ M, h _ _ [(D, _)] (by simpa using L.store _) (.inr ⟨D, off, cap, _, by rw [aD], rfl, by simpa using G, h3, ?_, ?_⟩)⟩
  ·simp only [eF, aD, cX, jA, dJ, n]
   rw [dU (by omega)]
   omega
  ·have hA : (s.toList.take (off + l.length * i.size)).length = off + l.length * i.size := by simp; omega
   show ((s.toList.take (off + l.length * i.size) ++ (fm ++ s.toList.drop (off + l.length * i.size + fm.length))).drop off).take ((l ++ m).length * i.size) = _
   rw [O, List.drop_append, ke, hA, show off - (off + l.length * i.size) = 0 by omega, List.drop_zero, show off + l.length * i.size - off = l.length * i.size by omega, h5]
   rw [aD, cU, ij, ij, J, n, cZ (by rw [J]; omega), show l.length * i.size + m.length * i.size - l.length * i.size = m.length * i.size by omega, cZ (by rw [n]; omega)]
   simp
 ·have hold : (Builtin.firstCells i.size l.length (.slice (some ⟨D, off, none⟩) l.length cap)).run P W.drew = .ok ((l.map enc).flatten).toArray W.drew := by
   refine run_firstCells_some W.drew i.size l.length ⟨D, off, none⟩ l.length cap _ J (fun j u hu => ?_)
   rw [eE]
   show W.cell? ⟨D, off + j, none⟩ = some u
   rw [jg W D (off + j) s e (0, 0) hg]
   rw [← h5] at hu
   have hj : j < l.length * i.size := by have := (bN.1 hu).1; simp at this; omega
   rw [eT hj, eJ] at hu
   simpa using hu
  have hlen : (l ++ m).length = l.length + m.length := aD
  have aj := grownCap_ge W (l.length + m.length) cap e
  have ai := kd W (l.length + m.length) cap e Z.2
  have M := run_append_grow_src (P := P) W t t ty e i z ht hi hz (some ⟨D, off, none⟩) l.length cap ((l.map enc).flatten) hold _ m.length _ I (by omega) (by have := Z.2; unfold maxLen at this; omega) (growslice_fits (by omega) (by rw [a8]; exact Z.1))
  have h6 := L.drew.alloc (.cells (((l.map enc).flatten ++ fm).toArray ++ Builtin.zeroCells z.cells (grownCap W (l.length + m.length) cap e - (l.length + m.length))) e (0, 0))
  have h7 := (ST.drop (A := (W.drew.heap.size, _) :: X) h6).perm (L' := X ++ ([(W.heap.size, _)] ++ Y)) (by simpa using (gD (a := (W.heap.size, _)) (l₁ := X) (l₂ := Y)).symm)
  refine .inl ⟨_, _, U _ _ M, h _ _ _ h7 (mw.WW (.inr ⟨W.heap.size, grownCap W (l.length + m.length) cap e, _, by rw [hlen], rfl, by rw [hlen]; exact aj, ai, ?_, ?_⟩))⟩
  ·rw [Array.size_append, size_zeroCells, ab]
   simp only [eF, aD, J, n]
   rw [← cU, ← cU]
   congr 1
   omega
  ·rw [Array.toList_append, List.toList_toArray, hlen, O, List.take_append_of_le_length (by simp only [aD, J, n]; rw [cU]; exact bA _), cZ (by simp only [aD, J, n]; rw [cU]; exact bA _)]
end
end Go.Proofs.YtklbhegeiijbjaaGreat
namespace Go.Proofs.YtklbhegeiijbjaaGreat
open Go.RowKit
section
variable {P : Program} {ops : Array Oper} {Q : Exit → Act → World → Prop} {S : Array Bool → World → Prop}
def AF (ops : Array Oper) (l : Array Bool) : Prop := ∀ j o, ops[j]? = some o → l.getD j true = true → ∀ e ∈ o.after, Region.binds .any e = true → l.getD e.on true = true
def JW (ops : Array Oper) : Nat → List Nat → Bool
 | _, [] => true
 | j, k :: r => (match ops[j]? with | some o => o.after.any (fun e => Region.binds .any e && e.on == k) | none => false) && JW ops k r
theorem JD {l : Array Bool} (c : AF ops l) : ∀ (r : List Nat) (j i : Nat), JW ops j r = true → (j :: r).getLast? = some i → l.getD j true = true → l.getD i true = true
 | [], j, i, _, h, a => by simp at h; subst h; exact a
 | k :: r, j, i, h, g, a => by
  simp only [JW, bE] at h
  obtain ⟨h1, d⟩ := h
  cases b : ops[j]? with
  | none => rw [b] at h1; cases h1
  | some o =>
   rw [b] at h1
   simp only [Array.any_eq_true] at h1
   obtain ⟨n, m, h1⟩ := h1
   simp only [bE, kh] at h1
   have := c j o b a o.after[n] (Array.getElem_mem m) h1.1
   rw [h1.2] at this
   exact JD c r k i d (by simpa [List.getLast?_cons_cons] using g) this
def I5 (ops : Array Oper) (i : Nat) (l : Array Bool) : Prop := AF ops l ∧ l.getD i true = false
theorem I5.GB {l : Array Bool} {i : Nat} (h : I5 ops i l) (j : Nat) (r : List Nat) (a : JW ops j r = true) (c : (j :: r).getLast? = some i) : l.getD j true = false := by
 cases b : l.getD j true with
 | false => rfl
 | true => have := JD h.1 r j i a c b; rw [h.2] at this; cases this
theorem AF.start (n : Nat) (h : n = ops.size) : AF ops (Array.replicate n false) := by
 subst h
 intro j o c b
 have a : j < ops.size := (dV.1 c).1
 simp [a] at b
theorem AF.set {l : Array Bool} {i : Nat} (h : AF ops l) (r : i ∈ Region.ready .any ops l) : AF ops (l.setIfInBounds i true) := by
 intro j o q n e he m
 have up : ∀ {k : Nat}, l.getD k true = true → (l.setIfInBounds i true).getD k true = true := fun {k} hk => by
  by_cases c : i = k
  ·subst c
   by_cases g : i < l.size
   ·simp [g]
   ·simp [g]
  ·rw [lq true c]; exact hk
 by_cases b : i = j
 ·subst b
  obtain ⟨_, s, d, a⟩ := ly.1 r
  rw [q] at d
  cases d
  refine up ?_
  have := a e he m
  by_cases g : e.on < l.size
  ·simp [g] at this ⊢; exact this
  ·simp [g]
 ·rw [lq true b] at n
  exact up (h j o q n e he m)
def Fc (P : Program) (ops : Array Oper) (S : Array Bool → World → Prop) (i : Nat) (o : Oper) (v : Value) (a : Act) : Prop :=
 (Region.wanted o (yielded ops a.tmps) = true ∧ ∀ l w, I5 ops i l → S l w → (execOp a.eval o).run P w = .ok (.value v) w) ∨
 (Region.wanted o (yielded ops a.tmps) = false ∧ v = undef)
theorem Fc.WZ {i : Nat} {o : Oper} {v : Value} {a : Act} {l : Array Bool} (h : Fc P ops S i o v a) (hp : I5 ops i l) : YieldsIf P ops (S l) o v a :=
 h.imp (fun ⟨h1, b⟩ => ⟨h1, fun w hw => b l w hp hw⟩) id
def Pa (P : Program) (ops : Array Oper) (Q : Exit → Act → World → Prop) (S : Array Bool → World → Prop) : Nat → Array Bool → Act → World → Prop
 | 0, l, a, w => Region.ready .any ops l = [] ∧ Q .normal a w
 | n + 1, l, a, w => (Region.ready .any ops l = [] → Q .normal a w) ∧
  ∀ i ∈ Region.ready .any ops l, wpOp P ops Q i (fun c b => S (l.setIfInBounds i true) b ∧ Pa P ops Q S n (l.setIfInBounds i true) c b) a w
theorem On : ∀ (n : Nat) (l : Array Bool) (a : Act) (w : World), Pa P ops Q S n l a w → wpAny P .any ops Q n l a w
 | 0, _, _, _, h => h
 | n + 1, _, _, _, h => ⟨h.1, fun i d => wpOp_mono (fun b g c => On n _ b g c.2) (h.2 i d)⟩
theorem RG {i j : Nat} {d q : Oper} {v : Value} (u : ops[j]? = some q) (m : d.apart ops q = true) (n : ∀ cs b, d.op ≠ .select cs b) (o : ∀ cs b, q.op ≠ .select cs b) (t : ∀ c a w, Q (.panic c) (a.put d.dst v) w → Q (.panic c) a w) {K : Act → World → Prop} {a : Act} {w : World} (x : Fc P ops S i d v a) (h : wpOp P ops Q j K (a.put d.dst v) w) :
  wpOp P ops Q j (fun g s => Fc P ops S i d v g ∧ K (g.put d.dst v) s) a w := by
 have h1 : YieldsIf P ops (fun w => ∃ l, I5 ops i l ∧ S l w) d v a := x.imp (fun ⟨h1, k⟩ => ⟨h1, fun w ⟨l, hp, hw⟩ => k l w hp hw⟩) id
 refine wpOp_mono (fun g s r => ⟨r.1.imp (fun ⟨h1, k⟩ => ⟨h1, fun l w hp hw => k w ⟨l, hp, hw⟩⟩) id, r.2⟩) (wpOp_putIf (S := fun w => ∃ l, I5 ops i l ∧ S l w) u m n o t h1 h)
theorem LF {i : Nat} {y : Oper} {v : Value} (U : ops[i]? = some y) (t : ∀ (j : Nat) (o : Oper) cs b, ops[j]? = some o → o.op ≠ .select cs b) (hQ : ∀ c a w, Q (.panic c) (a.put y.dst v) w → Q (.panic c) a w) (hm : ∀ l w, S (l.setIfInBounds i true) w → S l w) :
  ∀ (n : Nat) (l : Array Bool) (a : Act) (w : World), (∀ j z, ops[j]? = some z → j ≠ i → l.getD j true = false → (∀ e ∈ z.after, Region.binds .any e = true → e.on ≠ i) → y.apart ops z = true) →
   AF ops l → i ∈ Region.ready .any ops l → Fc P ops S i y v a → S (l.setIfInBounds i true) w → Pa P ops Q S n (l.setIfInBounds i true) (a.put y.dst v) w → Pa P ops Q S (n + 1) l a w := by
 intro n
 induction n with
 | zero =>
  intro l a w _ L r M A H
  refine ⟨fun h => (by rw [h] at r; cases r), fun j F => ?_⟩
  by_cases d : j = i
  ·subst d
   exact (M.WZ ⟨L, (ly.1 r).1⟩).wpOp U (hm l w A) ⟨A, H⟩
  ·have := ready_mono F d
   rw [H.1] at this
   cases this
 | succ n ih =>
  intro l a w m L r M A H
  refine ⟨fun h => (by rw [h] at r; cases r), fun j F => ?_⟩
  by_cases d : j = i
  ·subst d
   exact (M.WZ ⟨L, (ly.1 r).1⟩).wpOp U (hm l w A) ⟨A, H⟩
  have h1 := H.2 j (ready_mono F d)
  obtain ⟨s, z, x, D⟩ := ly.1 F
  have I : ∀ e ∈ z.after, Region.binds .any e = true → e.on ≠ i := fun e he hb T => by
   have u := D e he hb
   have h0 := (ly.1 r).1
   rw [T] at u
   rcases Nat.lt_or_ge i l.size with O | O
   ·simp [O] at h0 u; rw [h0] at u; cases u
   ·simp [Array.getElem?_eq_none O] at u
  have u := RG x (m j z x d s I) (fun cs b => t i y cs b U) (fun cs b => t j z cs b x) hQ M h1
  have q : ∀ k ok, ops[k]? = some ok → k ≠ i → (l.setIfInBounds j true).getD k true = false → (∀ e ∈ ok.after, Region.binds .any e = true → e.on ≠ i) → y.apart ops ok = true := fun k ok hk W J Y => by
   refine m k ok hk W ?_ Y
   by_cases G : j = k
   ·subst G; exact s
   ·rw [lq true G] at J; exact J
  have g : (l.setIfInBounds i true).setIfInBounds j true = (l.setIfInBounds j true).setIfInBounds i true := Array.setIfInBounds_comm _ _ (Ne.symm d)
  refine wpOp_mono (fun a' Z R => ?_) u
  have h4 : S ((l.setIfInBounds j true).setIfInBounds i true) Z := by rw [← g]; exact R.2.1
  refine ⟨hm _ Z h4, ih (l.setIfInBounds j true) a' Z q (L.set F) (ready_mono r (Ne.symm d)) R.1 h4 ?_⟩
  rw [← g]
  exact R.2.2
end
def PX (P : Program) (n : Nat) (ops : Array Oper) (Q : tF) (S : Array Bool → World → Prop) (fuel : Nat) (listed : Array Bool) (E : Nat → Value) (W : World) : Prop :=
 AF ops listed → ∀ a, Ag n a E → Pa P ops (lift n Q) S fuel listed a W
section
variable {P : Program} {n : Nat} {Q : tF} {E : Nat → Value} {W : World} {ops : Array Oper} {S : Array Bool → World → Prop} {fuel : Nat} {listed : Array Bool}
theorem Np {id : Nat} {l : List Oper} (S : Array Bool → World → Prop) (hm : P.follows .mixedOrders = true) (h : PX P n l.toArray Q S l.length (Array.replicate l.length false) E W.drew) : CW P n (.region id l.toArray true) Q E W := fun a ha =>
 wp_region_any hm (On _ _ _ _ (h (AF.start _ (by simp)) a ha))
def EE (ops : Array Oper) (listed : Array Bool) (i : Nat) : Bool := Region.noSelect ops && Region.free .any ops listed i && (Region.ready .any ops listed).contains i
theorem nv {o : Oper} {dd : Nat} {v : Value} (i : Nat) (d : ops[i]? = some o) (hk : EE ops listed i = true) (hw : ml n ops E o) (k : o.dst = some dd) (m : dd < n) (hm : ∀ l w, S (l.setIfInBounds i true) w → S l w) (j : S (listed.setIfInBounds i true) W) (q : ∀ l W, I5 ops i l → S l W → nZ P E o W v W) (h : PX P n ops Q S fuel (listed.setIfInBounds i true) (qh E dd v) W) : PX P n ops Q S (fuel + 1) listed E W := fun c a ha => by
 simp only [EE, bE] at hk
 have g : i ∈ Region.ready .any ops listed := by simpa using hk.2
 exact LF d (Region.noSelect_spec hk.1.1) (fun _ _ _ h => h) hm fuel listed a W (Region.free_spec d hk.1.2) c g (.inl ⟨hw.of ha, fun l w hp b => by rw [ha.eval]; exact q l w hp b⟩) j (by rw [k]; exact h (c.set g) _ (ha.put m v))
theorem uE {A : Value → Prop} {o : Oper} {dd : Nat} (i : Nat) (d : ops[i]? = some o) (hk : EE ops listed i = true) (hw : ml n ops E o) (c : o.dst = some dd) (g : dd < n) (hm : ∀ l w, S (l.setIfInBounds i true) w → S l w) (b : S (listed.setIfInBounds i true) W) (j : ∃ p, A p ∧ ∀ W, nZ P E o W p W) (h : ∀ p, A p → PX P n ops Q S fuel (listed.setIfInBounds i true) (qh E dd p) W) : PX P n ops Q S (fuel + 1) listed E W := by
 obtain ⟨p, h1, a⟩ := j
 exact nv i d hk hw c g hm b (fun _ W _ _ => a W) (h p h1)
theorem OX {o : Oper} {dd : Nat} (i : Nat) (c : ops[i]? = some o) (hk : EE ops listed i = true) (hw : ∀ a, Ag n a E → Region.wanted o (yielded ops a.tmps) = false) (j : o.dst = some dd) (k : dd < n) (hm : ∀ l w, S (l.setIfInBounds i true) w → S l w) (g : S (listed.setIfInBounds i true) W) (h : PX P n ops Q S fuel (listed.setIfInBounds i true) (qh E dd undef) W) : PX P n ops Q S (fuel + 1) listed E W := fun b a ha => by
 simp only [EE, bE] at hk
 have d : i ∈ Region.ready .any ops listed := by simpa using hk.2
 exact LF c (Region.noSelect_spec hk.1.1) (fun _ _ _ h => h) hm fuel listed a W (Region.free_spec c hk.1.2) b d (.inr ⟨hw a ha, rfl⟩) g (by rw [j]; exact h (b.set d) _ (ha.put k _))
theorem WG {o : Oper} {dd j t : Nat} {want : Bool} (i : Nat) (k : ops[i]? = some o) (hk : EE ops listed i = true) (g : o.guard = some (j, want)) (m : (ops[j]?).bind (·.dst) = some t) (r : t < n) (b : E t = .bool (!want)) (d : o.dst = some dd) (q : dd < n) (hm : ∀ l w, S (l.setIfInBounds i true) w → S l w) (c : S (listed.setIfInBounds i true) W) (h : PX P n ops Q S fuel (listed.setIfInBounds i true) (qh E dd undef) W) : PX P n ops Q S (fuel + 1) listed E W :=
 OX i k hk (fun a ha => by have s := ha.yield m r b; simp [Region.wanted, g, s]) d q hm c h
theorem U2 {o : Oper} {dd j t : Nat} {want : Bool} (i : Nat) (k : ops[i]? = some o) (hk : EE ops listed i = true) (g : o.guard = some (j, want)) (m : (ops[j]?).bind (·.dst) = some t) (r : t < n) (b : E t = undef) (d : o.dst = some dd) (q : dd < n) (hm : ∀ l w, S (l.setIfInBounds i true) w → S l w) (c : S (listed.setIfInBounds i true) W) (h : PX P n ops Q S fuel (listed.setIfInBounds i true) (qh E dd undef) W) : PX P n ops Q S (fuel + 1) listed E W :=
 OX i k hk (fun a ha => by have s := ha.JB m r b; simp [Region.wanted, g, s]) d q hm c h
theorem U9 {o : Oper} {dd : Nat} (i : Nat) (s : ops[i]? = some o) (d : Region.ready .any ops listed = [i]) (hw : ml n ops E o) (k : o.dst = some dd) (l : dd < n) (h : pv P E o W fun v W' => S (listed.setIfInBounds i true) W' ∧ PX P n ops Q S fuel (listed.setIfInBounds i true) (qh E dd v) W') : PX P n ops Q S (fuel + 1) listed E W := fun g a ha => by
 have b : i ∈ Region.ready .any ops listed := by rw [d]; simp
 refine ⟨fun r => (by rw [r] at d; cases d), fun j m => ?_⟩
 rw [d] at m
 obtain rfl := bP.1 m
 unfold wpOp
 simp only [s]
 rw [aZ (hw.of ha)]
 refine .inl ?_
 unfold Oper.wp
 rw [ha.eval]
 rcases h with ⟨v, W', h1, c⟩ | ⟨W', h1, c⟩ | ⟨f, args, h1, c⟩
 ·rw [h1, jb]; exact ⟨c.1, by rw [k]; exact c.2 (g.set b) _ (ha.put l v)⟩
 ·rw [h1, jk]; exact ⟨c.1, by rw [k]; exact c.2 (g.set b) _ (ha.put l _)⟩
 ·rw [h1, jc]
  refine dW c ?_
  rintro e t ⟨v, rfl, q⟩
  exact ⟨q.1, by simp only [k]; exact q.2 (g.set b) _ (ha.put l v)⟩
theorem Wq {o : Oper} (i : Nat) (r : ops[i]? = some o) (d : Region.ready .any ops listed = [i]) (hw : ml n ops E o) (k : o.dst = none) (h : pv P E o W fun _ W' => S (listed.setIfInBounds i true) W' ∧ PX P n ops Q S fuel (listed.setIfInBounds i true) E W') : PX P n ops Q S (fuel + 1) listed E W := fun g a ha => by
 have b : i ∈ Region.ready .any ops listed := by rw [d]; simp
 refine ⟨fun q => (by rw [q] at d; cases d), fun j l => ?_⟩
 rw [d] at l
 obtain rfl := bP.1 l
 unfold wpOp
 simp only [r]
 rw [aZ (hw.of ha)]
 refine .inl ?_
 unfold Oper.wp
 rw [ha.eval]
 rcases h with ⟨v, W', h1, c⟩ | ⟨W', h1, c⟩ | ⟨f, args, h1, c⟩
 ·rw [h1, jb, k]; exact ⟨c.1, c.2 (g.set b) _ (ha.B6 _)⟩
 ·rw [h1, jk, k]; exact ⟨c.1, c.2 (g.set b) _ (ha.B6 _)⟩
 ·rw [h1, jc]
  refine dW c ?_
  rintro e s ⟨v, rfl, m⟩
  simp only [k]
  exact ⟨m.1, m.2 (g.set b) _ (ha.B6 _)⟩
theorem nh (c : Region.ready .any ops listed = []) (h : Q .normal E W) : PX P n ops Q S fuel listed E W := fun _ a ha => by
 cases fuel with
 | zero => exact ⟨c, E, ha, h⟩
 | succ f => exact ⟨fun _ => ⟨E, ha, h⟩, fun i b => by rw [c] at b; cases b⟩
theorem CC {p : Prop} {b : Bool} (a : b = true) (h : b = false) : p := by rw [a] at h; cases h
theorem nu {a : Array Bool} (b : listed = a) (h : PX P n ops Q S fuel a E W) : PX P n ops Q S fuel listed E W := by rw [b]; exact h
theorem He {o r : Oper} {d s : Nat} (i j : Nat) (G : ops[i]? = some o) (I : ops[j]? = some r) (m : Region.ready .any ops listed = [i, j]) (hw : ml n ops E o) (x : ml n ops E r) (g : o.dst = some d) (u : r.dst = some s) (l : d < n) (w : s < n) (h : pv P E o W fun v W' => S (listed.setIfInBounds i true) W' ∧ PX P n ops Q S fuel (listed.setIfInBounds i true) (qh E d v) W') (D : pv P E r W fun v W' => S (listed.setIfInBounds j true) W' ∧ PX P n ops Q S fuel (listed.setIfInBounds j true) (qh E s v) W') : PX P n ops Q S (fuel + 1) listed E W := fun t a ha => by
 have key : ∀ (k : Nat) (q : Oper) (e : Nat), ops[k]? = some q → k ∈ Region.ready .any ops listed → ml n ops E q → q.dst = some e → e < n → (pv P E q W fun v W' => S (listed.setIfInBounds k true) W' ∧ PX P n ops Q S fuel (listed.setIfInBounds k true) (qh E e v) W') →
   wpOp P ops (lift n Q) k (fun A y => S (listed.setIfInBounds k true) y ∧ Pa P ops (lift n Q) S fuel (listed.setIfInBounds k true) A y) a W := by
  intro k q e hk b hw g l h
  unfold wpOp
  simp only [hk]
  rw [aZ (hw.of ha)]
  refine .inl ?_
  unfold Oper.wp
  rw [ha.eval]
  rcases h with ⟨v, W', h1, c⟩ | ⟨W', h1, c⟩ | ⟨f, args, h1, c⟩
  ·rw [h1, jb]; exact ⟨c.1, by rw [g]; exact c.2 (t.set b) _ (ha.put l v)⟩
  ·rw [h1, jk]; exact ⟨c.1, by rw [g]; exact c.2 (t.set b) _ (ha.put l _)⟩
  ·rw [h1, jc]
   refine dW c ?_
   rintro e y ⟨v, rfl, z⟩
   exact ⟨z.1, by simp only [g]; exact z.2 (t.set b) _ (ha.put l v)⟩
 refine ⟨fun F => (by rw [F] at m; cases m), fun k hk => ?_⟩
 rw [m] at hk
 rcases aS.1 hk with rfl | hk
 ·exact key _ o d G (by rw [m]; simp) hw g l h
 ·obtain rfl := bP.1 hk
  exact key _ r s I (by rw [m]; simp) x u w D
theorem nQ {l : Array Bool} {i j : Nat} {A : Prop} (a : Nat.beq i j = false) (h : (l.setIfInBounds i true).getD j true = false → A) : l.getD j true = false → A := fun b => h (by
 rw [lq true (fun e => by subst e; simp at a)]; exact b)
end
theorem DC.at {α : Type} {e : TypeId} {enc : α → List Value} {k : Nat} {v : Value} {l : List α} {R : List (Nat × Obj)} (h : mw e enc k v l R) (hk : ∀ x, (enc x).length = k) {p : Value} {i : Nat} (hp : DC R k p i) {x : α} (d : l[i]? = some x) : At (Ca R) p (enc x) := by
 obtain ⟨b, a, cap, rfl, rfl, _, _, _, _, rfl, c⟩ := DF h hk hp d
 exact ⟨b, i * k, a, e, (0, 0), rfl, by simp [Ca], c⟩
theorem sS.form {κ β : Type} {kenc : κ → Value} {vf : β → Value} {μ : mN} {v : Value} {l : List (κ × β)} (h : sS kenc vf μ v l) : ∃ r, v = .map r := by
 rcases h with ⟨h, _⟩ | ⟨m, es, clock, h, _⟩
 ·exact ⟨_, h⟩
 ·exact ⟨_, h⟩
noncomputable def Jz {β : Type} (l : List (ByteArray × β)) : Option (List ByteArray) :=
 open Classical in if (l.map (·.1)).Nodup ∧ (∀ p ∈ l, p.1.size ≤ maxLen) ∧ l.length * 16 ≤ 140737488355328 then some (yb (l.map (·.1))) else none
def Rj {κ κ2 β α : Type} (a : Nat) (mk : κ → κ2 → α) (l : List (κ × List (κ2 × β))) : Option (List α) :=
 if (l.flatMap (fun p => p.2.map (fun q => mk p.1 q.1))).length * a ≤ 140737488355328 ∧ (l.flatMap (fun p => p.2.map (fun q => mk p.1 q.1))).length ≤ maxLen then some (l.flatMap (fun p => p.2.map (fun q => mk p.1 q.1))) else none
section
variable {P : Program} {n : Nat} {Q : tF} {E : Nat → Value} {W : World} {ops : Array Oper} {rest : List Oper}
variable {dd : Bool} {α : Type} {enc : α → List Value} {k : Nat} {μ : mN} {v : Value}
variable {d : Option Nat} {ty : TypeId} {pos : String} {af : Array Edge} {g : Option (Nat × Bool)} {F : Nat → Prop} {w : World} {L : List (Nat × Obj)}
def Fi (enc : α → List Value) (k : Nat) : sO (List α) := fun μ ys x => ∃ v, ys = [v] ∧ Sl (Pl enc) k μ v x
theorem Fi.mono (enc : α → List Value) (k : Nat) : JE (Fi enc k) := fun _ _ _ _ b ⟨v, h1, a⟩ => ⟨v, h1, a.mono (Pl.mono _) b⟩
inductive Ef (enc : α → List Value) (k : Nat) (μ : mN) : List Value → List (List α) → Prop
 | nil : Ef enc k μ [] []
 | cons {v : Value} {x : List α} {vs : List Value} {l : List (List α)} : Sl (Pl enc) k μ v x → Ef enc k μ vs l → Ef enc k μ (v :: vs) (x :: l)
theorem Ef.length {vs : List Value} {l : List (List α)} (h : Ef enc k μ vs l) : vs.length = l.length := by
 induction h with
 | nil => rfl
 | cons _ _ ih => simp [ih]
theorem Ef.get {vs : List Value} {l : List (List α)} (h : Ef enc k μ vs l) : ∀ (i : Nat) (x : List α), l[i]? = some x → ∃ v, vs[i]? = some v ∧ Sl (Pl enc) k μ v x := by
 induction h with
 | nil => intro i x a; simp at a
 | cons h1 _ ih =>
  intro i x a
  cases i with
  | zero => simp at a; subst a; exact ⟨_, rfl, h1⟩
  | succ i => simpa using ih i x (by simpa using a)
theorem Fi.lit {b m : Nat} {vs : List Value} {e : TypeId} {l : List (List α)} (hm : l.length = m) (d : m ≤ maxLen) (g : μ b = some (.cells vs.toArray e (0, 0))) (h : Ef enc k μ vs l) : Sl (Fi enc k) 1 μ (.slice (some ⟨b, 0, none⟩) m m) l := by
 subst hm
 refine ⟨_, _, rfl, bA _, d, fun _ => ⟨b, 0, _, _, _, rfl, g, fun i x n => ?_⟩⟩
 obtain ⟨v, h1, c⟩ := h.get i x n
 refine ⟨[v], rfl, ⟨v, rfl, c⟩, fun j y a => ?_⟩
 cases j with
 | zero => simp at a; subst a; simpa using h1
 | succ j => simp at a
theorem F7 {k2 : Nat} {t e : TypeId} {x a : Operand} {r : IntKind} {i : Int} {l : List (List α)} {x0 : List α} (o : P.underlying t = some (.slice e)) (he : ∀ w, (sizeOf e).run P w = .ok 1 w) (q : lY E x = v) (k : lY E a = .int r i) (n : Sl (Fi enc k2) 1 μ v l) (b : 0 ≤ i) (m : l[i.toNat]? = some x0) :
  ∃ p, (∃ v0, At μ p [v0] ∧ Sl (Pl enc) k2 μ v0 x0) ∧ ∀ W, nZ P E ⟨d, .indexAddr t x a, ty, pos, af, g⟩ W p W := by
 obtain ⟨p, ys, h1, ⟨v0, rfl, c⟩, h, j⟩ := KZ (d := d) (ty := ty) (pos := pos) (af := af) (g := g) o he q k n b m
 exact ⟨p, ⟨v0, h, c⟩, j⟩
theorem F8 {x : Operand} {t e : TypeId} (a : P.underlying t = some (.slice e)) (b : lY E x = .slice none 0 0) : nZ P E ⟨d, .call ⟨.builtin .cap, #[x], #[t]⟩, ty, pos, af, g⟩ W (.int .i64 0) W := by
 show (do let d ← resolve (lY E) ⟨.builtin .cap, #[x], #[t]⟩ ty; invoke d.target d.args : Sem Next).run P W = _
 simp [resolve, invoke, builtin, Builtin.cap_, aX a, b, goInt]
theorem Rr {x y : Operand} {ats : Array TypeId} {k : IntKind} {a b : Int} (c : lY E x = .int k a) (h : lY E y = .int k b) :
  nZ P E ⟨d, .call ⟨.builtin .max, #[x, y], ats⟩, ty, pos, af, g⟩ W (.int k (if b > a then b else a)) W := by
 show (do let d ← resolve (lY E) ⟨.builtin .max, #[x, y], ats⟩ ty; invoke d.target d.args : Sem Next).run P W = _
 simp [resolve, invoke, c, h, builtin, Builtin.max_, Builtin.max2]
theorem Kt {t e : TypeId} {x ih : Operand} {h : IntKind} (b : P.underlying t = some (.slice e)) (he : ∀ w, (sizeOf e).run P w = .ok k w) (c : lY E x = .slice none 0 0) (a : lY E ih = .int h 0) :
  nZ P E ⟨d, .slice t x none (some ih) none, ty, pos, af, g⟩ W (.slice none 0 0) W := by
 show (do pure (.value (← Instr.sliceAt t (lY E x) none (some (lY E ih)) none)) : Sem Next).run P W = _
 rw [c, a]
 simp [Instr.sliceAt, Instr.slice, Instr.sliceBounds, Instr.sliceBound, asIntOf, aX b, he W]
def Gp {α : Type} (a : Nat) (z : α) (n : Int) : Option (List α) := if 0 < n ∧ n * a ≤ 140737488355328 ∧ n ≤ (maxLen : Int) then some (List.replicate n.toNat z) else none
theorem Jq (t k ty e : TypeId) (i : TypeInfo) (z : Value) (u : P.underlying t = some (.slice e)) (j : P.underlying k = some (.int .i64)) (o : P.info? e = some i) (v : i.zero = some z) (n : Nat) (l : 0 < n) (s : 0 < i.size) (m : n ≤ 9223372036854775807) (c : n * i.bytes ≤ 140737488355328) (W : World) :
  (Builtin.append_ #[t, k] ty #[.slice none 0 0, .int .i64 (n : Int)]).run P W =
   .ok (.slice (some ⟨W.heap.size, 0, none⟩) n (grownCap W n 0 e)) (W.drew.alloc (.cells (Builtin.zeroCells z.cells n ++ Builtin.zeroCells z.cells (grownCap W n 0 e - n)) e)) := by
 have hw : IntKind.i64.wrap (n : Int) = (n : Int) := by unfold IntKind.wrap; simp [IntKind.bits, IntKind.signed]; omega
 have h1 : ¬ ((n : Int) < 0) := by omega
 have a : ¬ (281474976710656 < (n : Int) * i.bytes) := by
  have := Int.ofNat_le.2 c
  rw [Int.natCast_mul] at this
  omega
 have d : ¬ (n * i.size = 0) := fun h => by rcases Nat.mul_eq_zero.1 h with h | h <;> omega
 have q : n ≠ 0 := by omega
 have r : i.size ≠ 0 := by omega
 have b : ¬ (9223372036854775807 < (n : Int)) := by omega
 have g : ¬ (281474976710656 < Builtin.nextslicecap n 0 * i.bytes) := by rw [nextslicecap_zero l]; omega
 simp [Builtin.append_, aX u, aX j, sizeOf, typeInfo, zeroValue, o, v, asInt, asIntOf, hw, h1, a, q, b, g, Question.forced, run_firstCells_none, newRow, grownCap]
 exact fun h => absurd h d
theorem MU {K : Value → World → Prop} {α : Type} {e t A : TypeId} {enc : α → List Value} {k q : Nat} {c : Value} {n : Int} {z : α} {r : List α} (X : List (Nat × Obj)) {Y : List (Nat × Obj)} {x y : Operand} {i : TypeInfo} (j : ST dd F w W μ (X ++ Y)) (hk : ∀ x, (enc x).length = k) (R : 0 < k) (ht : P.underlying t = some (.slice e)) (Z : P.underlying A = some (.int .i64)) (hi : P.info? e = some i) (hz : i.zero = some c) (U : i.size = k) (L : i.bytes = q) (hc : c.cells = (enc z).toArray) (hx : lY E x = .slice none 0 0) (hy : lY E y = .int .i64 n) (a : Gp q z n = some r) (h : ∀ W' v' R', ST dd F w W' μ (X ++ (R' ++ Y)) → mw e enc k v' r R' → K v' W') : pv P E ⟨d, .call ⟨.builtin .append, #[x, y], #[t, A]⟩, ty, pos, af, g⟩ W K := by
 unfold Gp at a
 split at a
 case isFalse => cases a
 rename_i J
 cases a
 obtain ⟨n, rfl⟩ : ∃ m : Nat, n = (m : Int) := ⟨n.toNat, by omega⟩
 have T : 0 < n := by omega
 subst U; subst L
 have hM : n ≤ maxLen := by omega
 have I : n ≤ 9223372036854775807 := by simp only [maxLen] at hM; omega
 have G : n * i.bytes ≤ 140737488355328 := Int.ofNat_le.1 (by rw [Int.natCast_mul]; exact J.2.1)
 have hr := Jq (P := P) t A ty e i c ht Z hi hz n T R I G W
 have u : (execOp (lY E) ⟨d, .call ⟨.builtin .append, #[x, y], #[t, A]⟩, ty, pos, af, g⟩).run P W = .ok (.value (.slice (some ⟨W.heap.size, 0, none⟩) n (grownCap W n 0 e))) (W.drew.alloc (.cells (Builtin.zeroCells c.cells n ++ Builtin.zeroCells c.cells (grownCap W n 0 e - n)) e)) := by
  show (do let d ← resolve (lY E) ⟨.builtin .append, #[x, y], #[t, A]⟩ ty; invoke d.target d.args : Sem Next).run P W = _
  simp [resolve, invoke, builtin, hx, hy, hr]
 have O := qF _ _ _ _ hr
 refine .inl ⟨_, _, u, ?_⟩
 have Q := grownCap_ge W n 0 e
 have M : grownCap W n 0 e ≤ maxLen := kd W n 0 e hM
 have a1 : ∀ m, (Builtin.zeroCells c.cells m).toList = (List.replicate m (enc z)).flatten := fun m => by rw [hc, Fb]
 have v : c.cells.size = i.size := by rw [hc, eF, hk]
 have l : mw e enc i.size (.slice (some ⟨W.heap.size, 0, none⟩) n (grownCap W n 0 e)) (List.replicate n z) [(W.heap.size, .cells (Builtin.zeroCells c.cells n ++ Builtin.zeroCells c.cells (grownCap W n 0 e - n)) e (0, 0))] := by
  refine .inr ⟨W.heap.size, grownCap W n 0 e, _, by rw [jz], rfl, by simpa using Q, M, ?_, ?_⟩
  ·simp only [Array.size_append, size_zeroCells, v, ← cU]
   congr 1
   omega
  ·have D : (Builtin.zeroCells c.cells n).toList.length = n * i.size := by rw [dJ, size_zeroCells, v]
   rw [jz, Array.toList_append, ← D, List.take_left, a1, kf]
 refine h _ _ _ ?_ l
 have hex : Ex dd W (W.drew.alloc (.cells (Builtin.zeroCells c.cells n ++ Builtin.zeroCells c.cells (grownCap W n 0 e - n)) e)) := ⟨rfl, rfl, rfl, wC.of O, by simp, fun b a => heap_alloc_old W.drew _ a⟩
 have h1 := j.JI hex
 have s := h1.nd
 refine ⟨h1.os, h1.tape, h1.output, h1.drawn, h1.size, h1.oG, h1.mem, fun b o a => ?_, ?_⟩
 ·simp only [aQ, bP] at a
  rcases a with a | a | a
  ·exact h1.box b o (by simp [a])
  ·cases a
   refine ⟨heap_alloc_new W.drew _, ?_, .inl j.size⟩
   cases hm : μ W.heap.size with
   | none => rfl
   | some x => have := j.FT hm; omega
  ·exact h1.box b o (by simp [a])
 ·simp only [cM, bM, iu, iC] at s ⊢
  refine (iX gD).2 (dT.2 ⟨fun hm => ?_, s⟩)
  rw [← cM] at hm
  obtain ⟨⟨b, o⟩, a, D⟩ := bJ.1 hm
  have := j.GV a
  simp at D
  omega
end
section
variable {P : Program} {E : Nat → Value} {W : World} {d : Option Nat} {ty : TypeId} {pos : String} {af : Array Edge} {g : Option (Nat × Bool)}
 {F : Nat → Prop} {w : World} {μ : mN} {L : List (Nat × Obj)} {α : Type} {e : TypeId} {enc : α → List Value} {k : Nat} {v : Value} {l : List α} {R : List (Nat × Obj)} {dd : Bool}
theorem mw.An {g b : List α} {r : Value} {R2 : List (Nat × Obj)} (j : 0 < k) (hk : ∀ x, (enc x).length = k) (D : mw e enc k v l R) (h1 : mw e enc k r b R) (o : mw e enc k v g R2) (q : b.length ≤ g.length) : mw e enc k r (g.take b.length) R2 := by
 rcases D with ⟨rfl, rfl, rfl⟩ | ⟨A, cap, y, rfl, rfl, J, L, F, M⟩
 ·rcases h1 with ⟨rfl, rfl, _⟩ | ⟨_, _, _, _, h, _⟩
  ·rcases o with ⟨_, rfl, rfl⟩ | ⟨_, _, _, h, _⟩
   ·exact mw.nil e enc k
   ·cases h
  ·cases h
 ·rcases h1 with ⟨_, _, h⟩ | ⟨g1, a, n, rfl, z, s, a2, a3, a4⟩
  ·cases h
  cases z
  have d : a = cap := Nat.eq_of_mul_eq_mul_right j (a3.symm.trans F)
  subst d
  rcases o with ⟨h, _⟩ | ⟨g2, m, c, h, rfl, G, t, u, w⟩
  ·cases h
  ·simp only [Value.slice.injEq, iH, Addr.mk.injEq] at h
   obtain ⟨⟨rfl, _, _⟩, I, rfl⟩ := h
   have i : (g.take b.length).length = b.length := by rw [cX]; omega
   refine .inr ⟨A, a, c, by rw [i], rfl, by rw [i]; exact s, t, u, ?_⟩
   rw [i, Ep hk g b.length q, ← w, iL, dU (cR _ q)]
end
variable {dd : Bool}
section
variable {P : Program} {fn : Func} {R : Ending → World → Prop} {E : Nat → Value} {W : World}
theorem tk {a : Tmp} {t0 : TypeId} {a0 : Addr} {v0 : Value} {b : Tmp} {v1 : Value} (d : fn.results = #[.cell a t0, .tmp b]) (c : E a = .pointer (some a0)) (i : (Instr.loadAt t0 (.pointer (some a0))).run P W = .ok v0 W) (h1 : E b = v1) (h : R (.returned (.tuple #[v0, v1])) W) : Bt P fn R .ret E W :=
 ⟨.tuple #[v0, v1], fun tmps g => by
  have j : (loadVar t0 a0).run P W = .ok v0 W := by simpa [Instr.loadAt, Instr.sureAddr] using i
  simp [results, d, g, asAddr, c, j, h1], h⟩
end
end Go.Proofs.YtklbhegeiijbjaaGreat
namespace Go.Proofs.YtklbhegeiijbjaaGreat
open Go.RowKit
section
variable {x y : Nat × Obj} {A B C L R S : List (Nat × Obj)}
theorem Pz : (x :: A).Perm (x :: A) := .refl _
theorem Pb (h : A.Perm (x :: B)) : (y :: A).Perm (x :: y :: B) := (h.cons y).trans (.swap ..)
theorem Pr (h : A.Perm (x :: B)) : (S ++ A).Perm (x :: (S ++ B)) := (h.append_left S).trans gD
theorem Qz : (R ++ A).Perm (R ++ A) := .refl _
theorem Qb (h : A.Perm (R ++ B)) : (y :: A).Perm (R ++ (y :: B)) := (h.cons y).trans List.perm_middle.symm
theorem Qr (h : A.Perm (R ++ B)) : (S ++ A).Perm (R ++ (S ++ B)) := (h.append_left S).trans (iI S R B)
def oT (L L' : List (Nat × Obj)) : Prop := ∃ M, L.Perm (L' ++ M)
theorem Sn : oT L [] := ⟨L, .refl _⟩
theorem St : oT L L := ⟨[], by rw [bT]⟩
theorem Sb (h : L.Perm (x :: A)) (k : oT A B) : oT L (x :: B) := let ⟨M, m⟩ := k; ⟨M, h.trans (m.cons x)⟩
theorem Sr (h : L.Perm (R ++ A)) (k : oT A B) : oT L (R ++ B) := let ⟨M, m⟩ := k; ⟨M, by rw [aR]; exact h.trans (m.append_left R)⟩
theorem Kb (k : oT A B) : oT (x :: A) (x :: B) := Sb Pz k
theorem Kr (k : oT A B) : oT (R ++ A) (R ++ B) := Sr Qz k
theorem Db (k : oT A B) : oT (x :: A) B := let ⟨M, m⟩ := k; ⟨x :: M, (m.cons x).trans List.perm_middle.symm⟩
theorem Dr (k : oT A B) : oT (R ++ A) B := let ⟨M, m⟩ := k; ⟨R ++ M, (m.append_left R).trans (iI R B M)⟩
theorem oT.mem (s : oT L A) : ∀ p, p ∈ A → p ∈ L := fun p hp => let ⟨M, m⟩ := s; m.mem_iff.2 (cK _ hp)
theorem ST.lF {dd : Bool} {F : Nat → Prop} {w W : World} {μ : mN} (h : ST dd F w W μ L) (s : oT L A) : ST dd F w W μ A := let ⟨M, m⟩ := s; (h.perm m).sublist (List.sublist_append_left A M)
theorem qc.lF {μ : mN} {W : World} (h : qc μ L W) (s : oT L A) : qc μ A W := h.sub (mx.refl _) s.mem
theorem qc.pN {μ μ' : mN} {W : World} (h : qc μ L W) (a : mx μ' μ) (s : oT L A) : qc μ' A W := h.sub a s.mem
theorem Cn : L.Perm ([] ++ L) := .refl _
theorem Cb (h : L.Perm (x :: A)) (k : A.Perm (B ++ C)) : L.Perm ((x :: B) ++ C) := h.trans (k.cons x)
theorem Cr (h : L.Perm (R ++ A)) (k : A.Perm (B ++ C)) : L.Perm ((R ++ B) ++ C) := by rw [aR]; exact h.trans (k.append_left R)
theorem C0 (k : L.Perm (B ++ C)) : L.Perm (([] ++ B) ++ C) := k
theorem Tn : ([] ++ A).Perm A := .refl _
theorem Tb (h : (A ++ B).Perm C) : ((x :: A) ++ B).Perm (x :: C) := h.cons x
theorem Tr (h : (A ++ B).Perm C) : ((R ++ A) ++ B).Perm (R ++ C) := by rw [aR]; exact h.append_left R
theorem Nb (h : L.Perm (x :: A)) (k : A.Perm B) : L.Perm (x :: B) := h.trans (k.cons x)
theorem Nr (h : L.Perm (R ++ A)) (k : A.Perm B) : L.Perm (R ++ B) := h.trans (k.append_left R)
theorem Nz : L.Perm L := .refl _
theorem XG {R' R1 : List (Nat × Obj)} (hp : R.Perm (R' ++ R1)) : (R ++ A).Perm (R' ++ (R1 ++ A)) := by rw [← aR]; exact hp.append_right A
theorem Mh : x ∈ x :: A := .head _
theorem Mt (h : x ∈ A) : x ∈ y :: A := .tail _ h
theorem Ma (h : x ∈ A) : x ∈ R ++ A := dZ _ h
theorem Ml (h : x ∈ R) : x ∈ R ++ A := cK _ h
end
section
variable {dd : Bool} {F : Nat → Prop} {w W : World} {μ : mN} {L L0 L1 Y R : List (Nat × Obj)}
theorem ST.QV (h : ST dd mD w W μ L) (s : oT L L1) : wZ dd [] L1 w W := let ⟨_, m⟩ := s; (h.perm m).Ws
theorem ST.ov (h : ST dd (keys L0) w W μ L) (s : oT L L1) : wZ dd L0 L1 w W := let ⟨_, m⟩ := s; (h.perm m).Ww
theorem ST.yH : ∀ {R : List (Nat × Obj)} {μ : mN}, ST dd F w W μ (R ++ Y) → ∃ μ', ST dd F w W μ' Y ∧ mx μ μ' ∧ Lo F w μ μ' ∧ ∀ b o, (b, o) ∈ R → μ' b = some o
 | [], μ, h => ⟨μ, h, mx.refl _, Lo.refl, fun _ _ h => by cases h⟩
 | (g, o) :: R, μ, h => by
  have c : ST dd F w W μ ([] ++ (g, o) :: (R ++ Y)) := h
  obtain ⟨μ', d, a2, a3, a4⟩ := ST.yH (R := R) (ST.KY (A := []) c)
  refine ⟨μ', d, (ST.KD (A := []) c).trans a2, (ST.Rx (A := []) c).trans a3, fun b i a => ?_⟩
  rcases aS.1 a with a | a
  ·cases a; exact a2 _ _ (aZ rfl)
  ·exact a4 b i a
theorem ST.Ap {α : Type} {e' : TypeId} {enc : α → List Value} {k : Nat} {v : Value} {l : List α} (a : ST dd F w W μ (R ++ Y)) (h : mw e' enc k v l R) (hk : ∀ x, (enc x).length = k) : ∃ μ', ST dd F w W μ' Y ∧ mx μ μ' ∧ Lo F w μ μ' ∧ Sl (Pl enc) k μ' v l := by
 obtain ⟨μ', b, a2, a3, a4⟩ := ST.yH a
 exact ⟨μ', b, a2, a3, h.sl hk a4⟩
section
variable {P : Program} {n : Nat} {Q : tF} {E : Nat → Value} {V : World} {id : Nat} {l : List Oper} {A B C : List (Nat × Obj)}
theorem mT (a : qc μ A V.drew) (hm : P.follows .mixedOrders = true) (h : PX P n l.toArray Q (fun _ W => qc μ A W) l.length (Array.replicate l.length false) E V.drew) : CW P n (.region id l.toArray true) Q E V := Np _ hm h
theorem yi (i : Nat) (a : qc μ A V.drew) (h1 : qc μ B V.drew) (hm : P.follows .mixedOrders = true) (h : PX P n l.toArray Q (fun l W => qc μ A W ∧ (l.getD i true = false → qc μ B W)) l.length (Array.replicate l.length false) E V.drew) : CW P n (.region id l.toArray true) Q E V := Np _ hm h
end
structure pC (μ : mN) (L0 : List (Nat × Obj)) (w : World) : Prop where
 H : Ht L0 w
 N : (L0.map (·.1)).Nodup
 S : mx μ (wW w L0)
theorem ST.RD (h : pC μ L0 w) : ST dd (keys L0) w w μ L0 := (ST.VI h.H h.N).nz h.S
end
section
variable {dd : Bool} {P : Program} {E : Nat → Value} {W : World} {d : Option Nat} {ty : TypeId} {pos : String} {af : Array Edge} {g : Option (Nat × Bool)} {F : Nat → Prop} {w : World} {μ : mN} {L : List (Nat × Obj)}
theorem mj {K : Value → World → Prop} {B : List (Nat × Obj)} {t : TypeId} {x y : Operand} (v : Value) {b off : Nat} {cs : Array Value} {T : TypeId} (a : Array Value) (c : ST dd F w W μ ((b, .cells cs T (0, 0)) :: B)) (l : lY E x = .pointer (some ⟨b, off, none⟩)) (m : lY E y = v) (i : ∀ w, (sizeOf t).run P w = .ok v.cells.size w) (h1 : ∀ u ∈ v.cells.toList, u.oneCell' = true) (k : off + v.cells.size ≤ cs.size) (j : (cs.toList.take off ++ v.cells.toList ++ cs.toList.drop (off + v.cells.size)).toArray = a) (h : ∀ W', ST dd F w W' μ ((b, .cells a T (0, 0)) :: B) → K undef W') : pv P E ⟨d, .store t x y, ty, pos, af, g⟩ W K := T4 [] v a c l m i h1 k j h
end
section
variable {dd : Bool}
variable {P : Program} {n : Nat} {Q : tF} {E : Nat → Value} {W : World} {ops : Array Oper} {rest : List Oper}
 {d : Option Nat} {ty : TypeId} {pos : String} {af : Array Edge} {g : Option (Nat × Bool)}
 {F : Nat → Prop} {w : World} {μ : mN} {L : List (Nat × Obj)}
theorem oK {K : Value → World → Prop} {α : Type} {e t : TypeId} {enc : α → List Value} {k a : Nat} {z v vs : Value} {l m r : List α} {R Y : List (Nat × Obj)} {x y : Operand} {i : TypeInfo} (b : ST dd F w W μ (R ++ Y)) (hk : ∀ x, (enc x).length = k) (j : 0 < k) (h1 : ∀ x, ∀ u ∈ enc x, u.oneCell' = true) (I : P.underlying t = some (.slice e)) (D : P.info? e = some i) (M : i.zero = some z) (o : z.cells.size = k) (n : i.size = k) (c : i.bytes = a) (J : lY E x = v) (L : lY E y = vs) (s : mw e enc k v l R) (G : Sl (Pl enc) k (hp W) vs m) (A : oH a l m = some r) (h : ∀ W' q R', ST dd F w W' μ (R' ++ Y) → mw e enc k q r R' → K q W') : pv P E ⟨d, .call ⟨.builtin .append, #[x, y], #[t, t]⟩, ty, pos, af, g⟩ W K :=
 M4 [] b hk j h1 I D M o n c J L s G A h
end
section
variable {dd : Bool}
variable {P : Program} {E : Nat → Value} {W : World} {d : Option Nat} {ty : TypeId} {pos : String} {af : Array Edge} {g : Option (Nat × Bool)}
 {F : Nat → Prop} {w : World} {μ : mN} {L : List (Nat × Obj)}
theorem Pf {K : Value → World → Prop} {α : Type} {e : TypeId} {enc : α → List Value} {k : Nat} {l : List α} {f : FuncId} {fv : Operand} {ax : Array Operand} {ats : Array TypeId} {caps : Array Value} {args : List Value} (Y : List (Nat × Obj)) (a : ST dd F w W μ Y) (c : lY E fv = .func (.func f) #[] caps) (he : ∀ args w, (callFunc f args).run P w = .ok (.enter f args) w) (ha : ax.map (lY E) ++ caps = args.toArray) (b : nq dd P f args W e enc k l) (h : ∀ W' v μ' R, ST dd F w W' μ' (R ++ Y) → mx μ μ' → Lo F w μ μ' → mw e enc k v l R → K v W') : pv P E ⟨d, .call ⟨.value fv, ax, ats⟩, ty, pos, af, g⟩ W K :=
 Py [] Y a c he ha b h
end
section
variable {dd : Bool}
variable {P : Program} {E : Nat → Value} {W : World} {d : Option Nat} {ty : TypeId} {pos : String} {af : Array Edge} {g : Option (Nat × Bool)}
 {F : Nat → Prop} {w : World} {μ : mN} {L : List (Nat × Obj)} {α : Type} {e' : TypeId} {enc : α → List Value} {k : Nat} {v : Value} {l : List α} {R : List (Nat × Obj)}
theorem Bj {K : Value → World → Prop} {Y : List (Nat × Obj)} {t : TypeId} {x y : Operand} {p u : Value} {i : Nat} {x0 x1 : α} (a : ST dd F w W μ (R ++ Y)) (h : mw e' enc k v l R) (hk : ∀ x, (enc x).length = k) (h1 : ∀ x, ∀ u ∈ enc x, u.oneCell' = true) (m : lY E x = p) (n : lY E y = u) (hu : u.cells = (enc x1).toArray) (hp : DC R k p i) (j : l[i]? = some x0) (c : ∀ w, (sizeOf t).run P w = .ok k w) (b : ∀ W' R', ST dd F w W' μ (R' ++ Y) → mw e' enc k v (l.set i x1) R' → K undef W') : pv P E ⟨d, .store t x y, ty, pos, af, g⟩ W K :=
 PE [] a h hk h1 m n hu hp j c b
end
section
variable {dd : Bool}
variable {P : Program} {W : World} {κ : Type} {kt : TypeId} {kenc : κ → Value} {beq : κ → κ → Bool}
variable {β : Type} {vf : β → Value} {E : Nat → Value} {d : Option Nat} {ty : TypeId} {pos : String} {af : Array Edge} {g : Option (Nat × Bool)} {F : Nat → Prop} {w : World} {μ : mN} {L : List (Nat × Obj)}
theorem Cl {c : Value → World → Prop} {Y R : List (Nat × Obj)} {t e : TypeId} {m x y : Operand} {b : Value} {l : List (κ × β)} {k : κ} {v : β} (K : qR P kt kenc beq) (j : P.underlying t = some (.map kt e)) (a : ST dd F w W μ (R ++ Y)) (h : na kenc vf b l R) (hm : lY E m = b) (n : lY E x = kenc k) (o : lY E y = vf v) (i : ∀ W' R', ST dd F w W' μ (R' ++ Y) → na kenc vf b (pu beq l k v) R' → c undef W') : pv P E ⟨d, .mapUpdate t m x y, ty, pos, af, g⟩ W c :=
 Cq [] K j a h hm n o i
end
section
variable {dd : Bool}
variable {P : Program} {E : Nat → Value} {W : World} {d : Option Nat} {ty : TypeId} {pos : String} {af : Array Edge} {g : Option (Nat × Bool)}
 {F : Nat → Prop} {w : World} {μ : mN} {L : List (Nat × Obj)} {α : Type} {e' : TypeId} {enc : α → List Value} {k : Nat} {v : Value} {l : List α} {R : List (Nat × Obj)}
theorem AG {K : Value → World → Prop} (z : α) {Y : List (Nat × Obj)} {t e : TypeId} {x : Operand} {u b : Value} {i : Nat} (a : ST dd F w W μ (R ++ Y)) (h : mw e' enc k v l R) (hk : ∀ x, (enc x).length = k) (h1 : ∀ x, ∀ u ∈ enc x, u.oneCell' = true) (m : P.underlying t = some (.slice e)) (o : ∀ w, (zeroValue e).run P w = .ok b w) (hu : Dq k v i u) (j : b.cells = (enc z).toArray) (n : lY E x = u) (c : ∀ W' R', ST dd F w W' μ (R' ++ Y) → mw e' enc k v (pV l i z) R' → K (.tuple #[]) W') : pv P E ⟨d, .call ⟨.builtin .clear, #[x], #[t]⟩, ty, pos, af, g⟩ W K :=
 Of z [] a h hk h1 m o hu j n c
end
section
variable {dd : Bool}
variable {κ γ : Type} {Q : Value → γ → List (Nat × Obj) → Prop} {beq : κ → κ → Bool} {kenc : κ → Value}
variable {P : Program} {W : World} {kt : TypeId} {E : Nat → Value} {d : Option Nat} {ty : TypeId} {pos : String} {af : Array Edge} {g : Option (Nat × Bool)} {F : Nat → Prop} {w : World} {μ : mN} {L : List (Nat × Obj)}
variable {κ2 β : Type} {kenc2 : κ2 → Value} {vf : β → Value} {beq2 : κ2 → κ2 → Bool} {kt2 : TypeId}
theorem Qf {c : Value → World → Prop} {Y R : List (Nat × Obj)} {t e : TypeId} {m x y : Operand} {j : Value} {b : List (κ × Value)} {l i : List (κ × List (κ2 × β))} {k : κ} {k2 : κ2} {v : β} (hk : ∀ {x y : κ}, beq x y = true → x = y) (K : qR P kt2 kenc2 beq2) (q : P.underlying t = some (.map kt2 e)) (a : ST dd F w W μ (R ++ Y)) (h : oX kenc (na kenc2 vf) j b l R) (hm : lY E m = uw beq b k (.map none)) (r : lY E x = kenc2 k2) (s : lY E y = vf v) (o : IV beq beq2 l k k2 v = some i) (n : ∀ W' R', ST dd F w W' μ (R' ++ Y) → oX kenc (na kenc2 vf) j b i R' → c undef W') : pv P E ⟨d, .mapUpdate t m x y, ty, pos, af, g⟩ W c :=
 RI [] hk K q a h hm r s o n
end
section
variable {dd : Bool}
variable {κ γ : Type} {Q : Value → γ → List (Nat × Obj) → Prop} {beq : κ → κ → Bool} {kenc : κ → Value}
variable {P : Program} {W : World} {kt : TypeId} {E : Nat → Value} {d : Option Nat} {ty : TypeId} {pos : String} {af : Array Edge} {g : Option (Nat × Bool)} {F : Nat → Prop} {w : World} {μ : mN} {L : List (Nat × Obj)}
variable {κ2 β : Type} {kenc2 : κ2 → Value} {vf : β → Value} {beq2 : κ2 → κ2 → Bool} {kt2 : TypeId}
theorem RS {c : Value → World → Prop} {Y R R2 : List (Nat × Obj)} {t e : TypeId} {m x y : Operand} {b : Value} {j : List (κ × Value)} {l i : List (κ × γ)} {k : κ} {u : Value} {z : γ} (K : qR P kt kenc beq) (r : P.underlying t = some (.map kt e)) (a : ST dd F w W μ (R ++ (R2 ++ Y))) (h : oX kenc Q b j l R) (hm : lY E m = b) (s : lY E x = kenc k) (v : lY E y = u) (q : Q u z R2) (o : Jm beq l k z = some i) (n : ∀ W' R', ST dd F w W' μ (R' ++ Y) → oX kenc Q b (pu beq j k u) i R' → c undef W') : pv P E ⟨d, .mapUpdate t m x y, ty, pos, af, g⟩ W c :=
 Qw [] K r a h hm s v q o n
end
section
variable {dd : Bool}
variable {κ γ : Type} {Q : Value → γ → List (Nat × Obj) → Prop} {beq : κ → κ → Bool} {kenc : κ → Value}
variable {P : Program} {W : World} {kt : TypeId} {E : Nat → Value} {d : Option Nat} {ty : TypeId} {pos : String} {af : Array Edge} {g : Option (Nat × Bool)} {F : Nat → Prop} {w : World} {μ : mN} {L : List (Nat × Obj)}
theorem UX {c : Value → World → Prop} {Y R R1 : List (Nat × Obj)} {t e : TypeId} {m x y : Operand} {b : Value} {i : List (κ × Value)} {l : List (κ × γ)} {k : κ} {u : Value} {z : γ} (K : qR P kt kenc beq) (o : P.underlying t = some (.map kt e)) (a : ST dd F w W μ (R ++ (R1 ++ Y))) (h : P0 beq kenc Q b i l k R) (hm : lY E m = b) (q : lY E x = kenc k) (r : lY E y = u) (n : Q u z R1) (j : ∀ W' R', ST dd F w W' μ (R' ++ Y) → oX kenc Q b (pu beq i k u) (pu beq l k z) R' → c undef W') : pv P E ⟨d, .mapUpdate t m x y, ty, pos, af, g⟩ W c :=
 VU [] K o a h hm q r n j
end
section
variable {dd : Bool}
variable {κ γ : Type} {Q : Value → γ → List (Nat × Obj) → Prop} {beq : κ → κ → Bool} {kenc : κ → Value}
variable {P : Program} {W : World} {kt : TypeId} {E : Nat → Value} {d : Option Nat} {ty : TypeId} {pos : String} {af : Array Edge} {g : Option (Nat × Bool)} {F : Nat → Prop} {w : World} {μ : mN} {L : List (Nat × Obj)}
theorem PF {i : Value → World → Prop} {Y R : List (Nat × Obj)} {t e : TypeId} {m x : Operand} {c z : Value} {x0 : γ} {s : List (κ × Value)} {l : List (κ × γ)} {k : κ} (hk : ∀ {x y : κ}, beq x y = true ↔ x = y) (K : qR P kt kenc beq) (o : P.underlying t = some (.map kt e)) (r : ∀ w, (zeroValue e).run P w = .ok z w) (b : Q z x0 []) (a : ST dd F w W μ (R ++ Y)) (h : oX kenc Q c s l R) (hm : lY E m = c) (q : lY E x = kenc k) (n : ∀ W' v j R' R1, ST dd F w W' μ (R' ++ (R1 ++ Y)) → Q v ((nE beq l k).getD x0) R1 → MA beq kenc Q c l k j R' → i (.tuple #[v, .int .i64 (j : Nat)]) W') : pv P E ⟨d, .mapEntry t m x, ty, pos, af, g⟩ W i :=
 PP [] hk K o r b a h hm q n
end
section
variable {dd : Bool}
variable {κ γ : Type} {Q : Value → γ → List (Nat × Obj) → Prop} {beq : κ → κ → Bool} {kenc : κ → Value}
variable {P : Program} {W : World} {kt : TypeId} {E : Nat → Value} {d : Option Nat} {ty : TypeId} {pos : String} {af : Array Edge} {g : Option (Nat × Bool)} {F : Nat → Prop} {w : World} {μ : mN} {L : List (Nat × Obj)}
theorem NO {i : Value → World → Prop} {Y R R1 : List (Nat × Obj)} {t e : TypeId} {m s y : Operand} {c u : Value} {z : γ} {l : List (κ × γ)} {k : κ} {j : Nat} (hk : ∀ {x y : κ}, beq x y = true ↔ x = y) (K : qR P kt kenc beq) (a : ST dd F w W μ (R ++ (R1 ++ Y))) (h : MA beq kenc Q c l k j R) (hm : lY E m = c) (q : lY E s = .int .i64 (j : Nat)) (r : lY E y = u) (o : Q u z R1) (n : ∀ W' b R', ST dd F w W' μ (R' ++ Y) → oX kenc Q c b (pu beq l k z) R' → i undef W') : pv P E ⟨d, .entryStore t m s y, ty, pos, af, g⟩ W i :=
 NQ (e := e) [] hk K a h hm q r o n
end
section
variable {dd : Bool}
variable {α : Type} {e : TypeId} {enc : α → List Value} {k : Nat} {v : Value} {l : List α} {R : List (Nat × Obj)}
variable {P : Program} {W : World} {E : Nat → Value} {d : Option Nat} {ty : TypeId} {pos : String} {af : Array Edge} {g : Option (Nat × Bool)} {F : Nat → Prop} {w : World} {μ : mN} {L : List (Nat × Obj)}
theorem Od {K : Value → World → Prop} {t : TypeId} {a : Nat} {z vs : Value} {m r : List α} {Y : List (Nat × Obj)} {x y : Operand} {i : TypeInfo} (b : ST dd F w W μ (R ++ Y)) (hk : ∀ x, (enc x).length = k) (j : 0 < k) (h1 : ∀ x, ∀ u ∈ enc x, u.oneCell' = true) (I : P.underlying t = some (.slice e)) (D : P.info? e = some i) (M : i.zero = some z) (o : z.cells.size = k) (n : i.size = k) (c : i.bytes = a) (J : lY E x = v) (L : lY E y = vs) (s : sy e enc k v l R) (G : Sl (Pl enc) k (hp W) vs m) (A : oH a l m = some r) (h : ∀ W' q R', ST dd F w W' μ (R' ++ Y) → sy e enc k q r R' → K q W') : pv P E ⟨d, .call ⟨.builtin .append, #[x, y], #[t, t]⟩, ty, pos, af, g⟩ W K :=
 Oc [] b hk j h1 I D M o n c J L s G A h
end
section
variable {P : Program} {n : Nat} {Q : tF} {E : Nat → Value} {W : World} {ops : Array Oper} {rest : List Oper}
variable {dd : Bool} {α : Type} {enc : α → List Value} {k : Nat} {μ : mN} {v : Value}
variable {d : Option Nat} {ty : TypeId} {pos : String} {af : Array Edge} {g : Option (Nat × Bool)} {F : Nat → Prop} {w : World} {L : List (Nat × Obj)}
theorem G3 {K : Value → World → Prop} {α : Type} {e t o : TypeId} {enc : α → List Value} {k a : Nat} {s : Value} {n : Int} {z : α} {r : List α} {Y : List (Nat × Obj)} {x y : Operand} {i : TypeInfo} (b : ST dd F w W μ Y) (hk : ∀ x, (enc x).length = k) (j : 0 < k) (D : P.underlying t = some (.slice e)) (m : P.underlying o = some (.int .i64)) (A : P.info? e = some i) (J : i.zero = some s) (l : i.size = k) (c : i.bytes = a) (v : s.cells = (enc z).toArray) (G : lY E x = .slice none 0 0) (I : lY E y = .int .i64 n) (u : Gp a z n = some r) (h : ∀ W' q R', ST dd F w W' μ (R' ++ Y) → mw e enc k q r R' → K q W') : pv P E ⟨d, .call ⟨.builtin .append, #[x, y], #[t, o]⟩, ty, pos, af, g⟩ W K :=
 MU [] b hk j D m A J l c v G I u h
end
section
variable {P : Program} {n : Nat} {Q : tF} {E : Nat → Value} {W : World} {ops : Array Oper} {rest : List Oper}
variable {d j t : Nat} {want : Bool} {v : Value} {ins : Go.Op} {ty : TypeId} {pos : String} {af : Array Edge} {A : Value → Prop}
theorem V (b : nZ P E ⟨some d, ins, ty, pos, af, none⟩ W v W) (h : LW P n ops Q rest (qh E d v) W) (a : d < n := by decide) : LW P n ops Q (⟨some d, ins, ty, pos, af, none⟩ :: rest) E W := KV (.inl rfl) rfl a b h
theorem VE (h : pv P E ⟨some d, ins, ty, pos, af, none⟩ W fun v W' => LW P n ops Q rest (qh E d v) W') (a : d < n := by decide) : LW P n ops Q (⟨some d, ins, ty, pos, af, none⟩ :: rest) E W := U3 (.inl rfl) rfl a h
theorem VO (h : pv P E ⟨none, ins, ty, pos, af, none⟩ W fun _ W' => LW P n ops Q rest E W') : LW P n ops Q (⟨none, ins, ty, pos, af, none⟩ :: rest) E W := Wy (.inl rfl) rfl h
theorem VQ (b : ∃ p, A p ∧ ∀ W, nZ P E ⟨some d, ins, ty, pos, af, none⟩ W p W) (h : ∀ p, A p → LW P n ops Q rest (qh E d p) W) (a : d < n := by decide) : LW P n ops Q (⟨some d, ins, ty, pos, af, none⟩ :: rest) E W := V6 (.inl rfl) rfl a b h
theorem Vg (b : (ops[j]?).bind (·.dst) = some t) (a : E t = .bool want) (g : nZ P E ⟨some d, ins, ty, pos, af, some (j, want)⟩ W v W) (h : LW P n ops Q rest (qh E d v) W) (i : t < n := by decide) (c : d < n := by decide) : LW P n ops Q (⟨some d, ins, ty, pos, af, some (j, want)⟩ :: rest) E W := KV (.inr ⟨j, want, t, rfl, b, i, a⟩) rfl c g h
theorem RA (b : (ops[j]?).bind (·.dst) = some t) (a : E t = .bool want) (h : pv P E ⟨some d, ins, ty, pos, af, some (j, want)⟩ W fun v W' => LW P n ops Q rest (qh E d v) W') (g : t < n := by decide) (c : d < n := by decide) : LW P n ops Q (⟨some d, ins, ty, pos, af, some (j, want)⟩ :: rest) E W := U3 (.inr ⟨j, want, t, rfl, b, g, a⟩) rfl c h
theorem XX (b : (ops[j]?).bind (·.dst) = some t) (a : E t = .bool want) (g : ∃ p, A p ∧ ∀ W, nZ P E ⟨some d, ins, ty, pos, af, some (j, want)⟩ W p W) (h : ∀ p, A p → LW P n ops Q rest (qh E d p) W) (i : t < n := by decide) (c : d < n := by decide) : LW P n ops Q (⟨some d, ins, ty, pos, af, some (j, want)⟩ :: rest) E W := V6 (.inr ⟨j, want, t, rfl, b, i, a⟩) rfl c g h
theorem Vn (b : (ops[j]?).bind (·.dst) = some t) (a : E t = .bool (!want)) (h : LW P n ops Q rest (qh E d undef) W) (g : t < n := by decide) (c : d < n := by decide) : LW P n ops Q (⟨some d, ins, ty, pos, af, some (j, want)⟩ :: rest) E W := Wo rfl c rfl b g a h
theorem Vu (b : (ops[j]?).bind (·.dst) = some t) (a : E t = undef) (h : LW P n ops Q rest (qh E d undef) W) (g : t < n := by decide) (c : d < n := by decide) : LW P n ops Q (⟨some d, ins, ty, pos, af, some (j, want)⟩ :: rest) E W := Vq rfl c rfl b g a h
end
section
variable {P : Program} {n : Nat} {Q : tF} {E : Nat → Value} {W : World} {ops : Array Oper} {S : Array Bool → World → Prop} {fuel : Nat} {listed : Array Bool} {μ : mN} {B : List (Nat × Obj)}
variable {d j t : Nat} {want : Bool} {v : Value} {ins : Go.Op} {ty : TypeId} {pos : String} {af : Array Edge} {A : Value → Prop}
theorem X (i : Nat) (b : ops[i]? = some ⟨some d, ins, ty, pos, af, none⟩) (a : S (listed.setIfInBounds i true) W) (g : ∀ {W}, nZ P E ⟨some d, ins, ty, pos, af, none⟩ W v W) (h : PX P n ops Q S fuel (listed.setIfInBounds i true) (qh E d v) W) (hk : EE ops listed i = true := by kernel_rfl) (hm : ∀ l w, S (l.setIfInBounds i true) w → S l w := by exact fun _ _ h => h) (c : d < n := by decide) : PX P n ops Q S (fuel + 1) listed E W := nv i b hk (.inl rfl) rfl c hm a (fun _ _ _ _ => g) h
theorem XH (i : Nat) (b : ops[i]? = some ⟨some d, ins, ty, pos, af, none⟩) (a : qc μ B W) (g : ∀ W, qc μ B W → nZ P E ⟨some d, ins, ty, pos, af, none⟩ W v W) (h : PX P n ops Q (fun _ W => qc μ B W) fuel (listed.setIfInBounds i true) (qh E d v) W) (hk : EE ops listed i = true := by kernel_rfl) (c : d < n := by decide) : PX P n ops Q (fun _ W => qc μ B W) (fuel + 1) listed E W := nv i b hk (.inl rfl) rfl c (fun _ _ h => h) a (fun _ W _ h => g W h) h
theorem XQ (i : Nat) (b : ops[i]? = some ⟨some d, ins, ty, pos, af, none⟩) (a : S (listed.setIfInBounds i true) W) (g : ∃ p, A p ∧ ∀ W, nZ P E ⟨some d, ins, ty, pos, af, none⟩ W p W) (h : ∀ p, A p → PX P n ops Q S fuel (listed.setIfInBounds i true) (qh E d p) W) (hk : EE ops listed i = true := by kernel_rfl) (hm : ∀ l w, S (l.setIfInBounds i true) w → S l w := by exact fun _ _ h => h) (c : d < n := by decide) : PX P n ops Q S (fuel + 1) listed E W := uE i b hk (.inl rfl) rfl c hm a g h
theorem XE (i : Nat) (a : ops[i]? = some ⟨some d, ins, ty, pos, af, none⟩) (h : pv P E ⟨some d, ins, ty, pos, af, none⟩ W fun v W' => S (listed.setIfInBounds i true) W' ∧ PX P n ops Q S fuel (listed.setIfInBounds i true) (qh E d v) W') (c : Region.ready .any ops listed = [i] := by kernel_rfl) (b : d < n := by decide) : PX P n ops Q S (fuel + 1) listed E W := U9 i a c (.inl rfl) rfl b h
theorem XO (i : Nat) (a : ops[i]? = some ⟨none, ins, ty, pos, af, none⟩) (h : pv P E ⟨none, ins, ty, pos, af, none⟩ W fun _ W' => S (listed.setIfInBounds i true) W' ∧ PX P n ops Q S fuel (listed.setIfInBounds i true) E W') (b : Region.ready .any ops listed = [i] := by kernel_rfl) : PX P n ops Q S (fuel + 1) listed E W := Wq i a b (.inl rfl) rfl h
theorem Xg (i : Nat) (c : ops[i]? = some ⟨some d, ins, ty, pos, af, some (j, want)⟩) (g : (ops[j]?).bind (·.dst) = some t) (a : E t = .bool want) (b : S (listed.setIfInBounds i true) W) (o : ∀ {W}, nZ P E ⟨some d, ins, ty, pos, af, some (j, want)⟩ W v W) (h : PX P n ops Q S fuel (listed.setIfInBounds i true) (qh E d v) W) (hk : EE ops listed i = true := by kernel_rfl) (hm : ∀ l w, S (l.setIfInBounds i true) w → S l w := by exact fun _ _ h => h) (m : t < n := by decide) (k : d < n := by decide) : PX P n ops Q S (fuel + 1) listed E W := nv i c hk (.inr ⟨j, want, t, rfl, g, m, a⟩) rfl k hm b (fun _ _ _ _ => o) h
theorem rz (i : Nat) (c : ops[i]? = some ⟨some d, ins, ty, pos, af, some (j, want)⟩) (g : (ops[j]?).bind (·.dst) = some t) (a : E t = .bool want) (b : qc μ B W) (m : ∀ W, qc μ B W → nZ P E ⟨some d, ins, ty, pos, af, some (j, want)⟩ W v W) (h : PX P n ops Q (fun _ W => qc μ B W) fuel (listed.setIfInBounds i true) (qh E d v) W) (hk : EE ops listed i = true := by kernel_rfl) (l : t < n := by decide) (k : d < n := by decide) : PX P n ops Q (fun _ W => qc μ B W) (fuel + 1) listed E W := nv i c hk (.inr ⟨j, want, t, rfl, g, l, a⟩) rfl k (fun _ _ h => h) b (fun _ W _ h => m W h) h
theorem zG (i : Nat) (b : ops[i]? = some ⟨some d, ins, ty, pos, af, some (j, want)⟩) (c : (ops[j]?).bind (·.dst) = some t) (a : E t = .bool want) (h : pv P E ⟨some d, ins, ty, pos, af, some (j, want)⟩ W fun v W' => S (listed.setIfInBounds i true) W' ∧ PX P n ops Q S fuel (listed.setIfInBounds i true) (qh E d v) W') (k : Region.ready .any ops listed = [i] := by kernel_rfl) (l : t < n := by decide) (g : d < n := by decide) : PX P n ops Q S (fuel + 1) listed E W := U9 i b k (.inr ⟨j, want, t, rfl, c, l, a⟩) rfl g h
theorem Xn (i : Nat) (c : ops[i]? = some ⟨some d, ins, ty, pos, af, some (j, want)⟩) (g : (ops[j]?).bind (·.dst) = some t) (a : E t = .bool (!want)) (b : S (listed.setIfInBounds i true) W) (h : PX P n ops Q S fuel (listed.setIfInBounds i true) (qh E d undef) W) (hk : EE ops listed i = true := by kernel_rfl) (hm : ∀ l w, S (l.setIfInBounds i true) w → S l w := by exact fun _ _ h => h) (m : t < n := by decide) (k : d < n := by decide) : PX P n ops Q S (fuel + 1) listed E W := WG i c hk rfl g m a rfl k hm b h
theorem Xu (i : Nat) (c : ops[i]? = some ⟨some d, ins, ty, pos, af, some (j, want)⟩) (g : (ops[j]?).bind (·.dst) = some t) (a : E t = undef) (b : S (listed.setIfInBounds i true) W) (h : PX P n ops Q S fuel (listed.setIfInBounds i true) (qh E d undef) W) (hk : EE ops listed i = true := by kernel_rfl) (hm : ∀ l w, S (l.setIfInBounds i true) w → S l w := by exact fun _ _ h => h) (m : t < n := by decide) (k : d < n := by decide) : PX P n ops Q S (fuel + 1) listed E W := U2 i c hk rfl g m a rfl k hm b h
end
section
variable {α β γ : Type}
inductive rX (Q : α → β → Prop) : List α → List β → Prop
 | nil : rX Q [] []
 | cons {a : α} {b : β} {l : List α} {m : List β} : Q a b → rX Q l m → rX Q (a :: l) (b :: m)
namespace rX
variable {Q Q' : α → β → Prop}
theorem length {l : List α} {m : List β} (h : rX Q l m) : l.length = m.length := by
 induction h with
 | nil => rfl
 | cons _ _ ih => simp [ih]
theorem imp {l : List α} {m : List β} (h : rX Q l m) (c : ∀ a b, Q a b → Q' a b) : rX Q' l m := by
 induction h with
 | nil => exact .nil
 | cons h1 _ ih => exact .cons (c _ _ h1) ih
theorem get {l : List α} {m : List β} (h : rX Q l m) : ∀ {i : Nat} {b : β}, m[i]? = some b → ∃ a, l[i]? = some a ∧ Q a b := by
 induction h with
 | nil => intro i b c; simp at c
 | cons h1 _ ih =>
  intro i b c
  cases i with
  | zero => simp at c; subst c; exact ⟨_, rfl, h1⟩
  | succ i => simpa using ih (by simpa using c)
theorem append {l a : List α} {m b : List β} (h : rX Q l m) (c : rX Q a b) : rX Q (l ++ a) (m ++ b) := by
 induction h with
 | nil => exact c
 | cons h1 _ ih => exact .cons h1 ih
theorem set {l : List α} {m : List β} (h : rX Q l m) {a : α} {b : β} (d : Q a b) : ∀ i : Nat, rX Q (l.set i a) (m.set i b) := by
 induction h with
 | nil => intro i; exact .nil
 | cons h1 c ih =>
  intro i
  cases i with
  | zero => exact .cons d c
  | succ i => exact .cons h1 (ih i)
theorem take {l : List α} {m : List β} (h : rX Q l m) : ∀ i : Nat, rX Q (l.take i) (m.take i) := by
 induction h with
 | nil => intro i; simp; exact .nil
 | cons h1 _ ih =>
  intro i
  cases i with
  | zero => exact .nil
  | succ i => exact .cons h1 (ih i)
theorem drop {l : List α} {m : List β} (h : rX Q l m) : ∀ i : Nat, rX Q (l.drop i) (m.drop i) := by
 induction h with
 | nil => intro i; simp; exact .nil
 | cons h1 a ih =>
  intro i
  cases i with
  | zero => exact .cons h1 a
  | succ i => exact ih i
end rX
theorem EX {P : Nat → β → α → Prop} : ∀ {m : List β} (o : Nat), (∀ (i : Nat) (b : β), m[i]? = some b → ∃ a, P (o + i) b a) → ∃ l : List α, l.length = m.length ∧ ∀ (i : Nat) (b : β), m[i]? = some b → ∃ a, l[i]? = some a ∧ P (o + i) b a
 | [], _, _ => ⟨[], rfl, fun i b h => by simp at h⟩
 | b :: m, o, h => by
  obtain ⟨a, ha⟩ := h 0 b rfl
  obtain ⟨l, h1, g⟩ := EX (m := m) (o + 1) (fun i b j => by
   obtain ⟨a, ha⟩ := h (i + 1) b (by simpa using j)
   exact ⟨a, by rw [show o + 1 + i = o + (i + 1) by omega]; exact ha⟩)
  refine ⟨a :: l, by simp [h1], fun i c d => ?_⟩
  cases i with
  | zero => simp at d; subst d; exact ⟨a, rfl, ha⟩
  | succ i =>
   obtain ⟨x, k, hp⟩ := g i c (by simpa using d)
   exact ⟨x, by simpa using k, by rw [show o + (i + 1) = o + 1 + i by omega]; exact hp⟩
theorem rX.RL {Q : α → β → Prop} : ∀ {l : List α} {m : List β}, l.length = m.length → (∀ (i : Nat) (a : α) (b : β), l[i]? = some a → m[i]? = some b → Q a b) → rX Q l m
 | [], [], _, _ => .nil
 | [], _ :: _, h, _ => by cases h
 | _ :: _, [], h, _ => by cases h
 | a :: l, b :: m, h, c => .cons (c 0 a b rfl rfl) (rX.RL (by simpa using h) (fun i x y d g => c (i + 1) x y (by simpa using d) (by simpa using g)))
end
structure Deep {β : Type} (R : sO β) (k : Nat) : Prop where
 mono : JE R
 len : ∀ {μ ys x}, R μ ys x → ys.length = k
 one : ∀ {μ ys x}, R μ ys x → ∀ u ∈ ys, u.oneCell' = true
abbrev zX (k : Nat) := {ys : List Value // ys.length = k ∧ ∀ u ∈ ys, u.oneCell' = true}
def ym {k : Nat} (c : zX k) : List Value := c.1
theorem BT {k : Nat} (x : zX k) : (ym x).length = k := x.2.1
theorem Sg {k : Nat} (x : zX k) : ∀ u ∈ ym x, u.oneCell' = true := x.2.2
theorem Sl.Er {α : Type} {R : sO α} {k : Nat} {μ : mN} {v : Value} {l : List α} (h : Sl R k μ v l) : v.oneCell' = true := by
 obtain ⟨A, c, rfl, _⟩ := h; rfl
section
variable {β : Type} {Rl : sO β} {k : Nat} {μ μ' : mN} {v : Value} {l : List β}
def Deep.cell (a : Deep Rl k) {ys : List Value} {x : β} (h : Rl μ ys x) : zX k := ⟨ys, a.len h, a.one h⟩
theorem Sl.raw (z : Deep Rl k) (h : Sl Rl k μ v l) : ∃ cl : List (zX k), Sl (Pl ym) k μ v cl ∧ rX (fun c x => Rl μ c.1 x) cl l := by
 obtain ⟨A, c, rfl, h1, s, u⟩ := h
 cases l with
 | nil => exact ⟨[], ⟨A, c, rfl, h1, s, fun h => absurd h (by simp)⟩, .nil⟩
 | cons x0 l =>
  obtain ⟨b, off, cs, T, fr, rfl, D, w⟩ := u (by simp)
  obtain ⟨cl, o, r⟩ := EX (P := fun i x (c : zX k) => Rl μ c.1 x ∧ ∀ j y, c.1[j]? = some y → cs[off + i * k + j]? = some y) (m := x0 :: l) 0 (fun i x q => by
   obtain ⟨ys, _, d, g⟩ := w i x q
   exact ⟨z.cell d, d, by rw [gQ]; exact g⟩)
  refine ⟨cl, ⟨_, c, by rw [o], by omega, s, fun _ => ⟨b, off, cs, T, fr, rfl, D, fun i c n => ?_⟩⟩, rX.RL o (fun i c x n q => ?_)⟩
  ·have F : i < (x0 :: l).length := by rw [← o]; exact (bN.1 n).1
   obtain ⟨t, a, _, g⟩ := r i _ (dF F)
   rw [n] at a; cases a
   exact ⟨c.1, c.2.1, rfl, by rw [gQ] at g; exact g⟩
  ·obtain ⟨t, a, d, _⟩ := r i x q
   rw [n] at a; cases a
   exact d
theorem Sl.QK {cl : List (zX k)} (h : Sl (Pl ym) k μ v cl) (t : mx μ μ') (ha : rX (fun c x => Rl μ' c.1 x) cl l) : Sl Rl k μ' v l := by
 obtain ⟨A, c, rfl, h1, m, n⟩ := h
 have a := ha.length
 refine ⟨A, c, by rw [a], by omega, m, fun w => ?_⟩
 obtain ⟨b, off, cs, T, fr, rfl, q, o⟩ := n (by omega)
 refine ⟨b, off, cs, T, fr, rfl, t _ _ q, fun i x u => ?_⟩
 obtain ⟨c, r, s⟩ := ha.get u
 obtain ⟨ys, d, g, j⟩ := o i c r
 cases g
 exact ⟨ym c, d, s, j⟩
def D5 (Rl : sO β) (k : Nat) (μ : mN) (W : World) (v : Value) (l : List β) : Prop := ∃ cl : List (zX k), Sl (Pl ym) k (hp W) v cl ∧ rX (fun c x => Rl μ c.1 x) cl l
theorem D5.sl (b : Deep Rl k) {W : World} (h : Sl Rl k μ v l) (c : mx μ (hp W)) : D5 Rl k μ W v l := by
 obtain ⟨cl, h1, a⟩ := h.raw b
 exact ⟨cl, h1.mono (Pl.mono _) c, a⟩
theorem Sl.Sh {b m : Nat} {cl : List (zX k)} {cs : Array Value} {e : TypeId} (hm : cl.length = m) (a : m ≤ maxLen) (d : cs.toList = (cl.map ym).flatten) (c : μ b = some (.cells cs e (0, 0))) : Sl (Pl ym) k μ (.slice (some ⟨b, 0, none⟩) m m) cl := by
 subst hm
 refine ⟨_, _, rfl, bA _, a, fun _ => ⟨b, 0, _, _, _, rfl, c, fun i x g => ⟨ym x, BT x, rfl, fun j y h => ?_⟩⟩⟩
 have := zH BT cl i x g j y h
 rw [← d] at this
 simpa using this
inductive FN (Rl : sO β) (k : Nat) (μ : mN) : List Value → List β → Prop
 | nil : FN Rl k μ [] []
 | cons {ys zs : List Value} {x : β} {l : List β} : Rl μ ys x → FN Rl k μ zs l → FN Rl k μ (ys ++ zs) (x :: l)
theorem FN.cells (b : Deep Rl k) {ys : List Value} (h : FN Rl k μ ys l) : ∃ cl : List (zX k), (cl.map ym).flatten = ys ∧ rX (fun c x => Rl μ c.1 x) cl l := by
 induction h with
 | nil => exact ⟨[], rfl, .nil⟩
 | cons h1 _ ih =>
  obtain ⟨cl, e, a⟩ := ih
  exact ⟨b.cell h1 :: cl, by rw [bM, bV, e]; rfl, .cons h1 a⟩
theorem D5.lit (d : Deep Rl k) {W : World} {b m : Nat} {ys : List Value} {e : TypeId} (h : FN Rl k μ ys l) (hm : l.length = m) (g : m ≤ maxLen) (i : W.heap[b]? = some (.cells ys.toArray e (0, 0))) : D5 Rl k μ W (.slice (some ⟨b, 0, none⟩) m m) l := by
 obtain ⟨cl, c, a⟩ := h.cells d
 exact ⟨cl, Sl.Sh (by rw [a.length]; exact hm) g c.symm i, a⟩
theorem Sl.imp {R R' : sO β} (h : Sl R k μ v l) (q : ∀ ys x, R μ ys x → R' μ ys x) : Sl R' k μ v l := by
 obtain ⟨A, c, rfl, h1, a, d⟩ := h
 refine ⟨A, c, rfl, h1, a, fun r => ?_⟩
 obtain ⟨b, off, cs, T, fr, rfl, o, g⟩ := d r
 exact ⟨b, off, cs, T, fr, rfl, o, fun i x s => let ⟨ys, j, m, n⟩ := g i x s; ⟨ys, j, q _ _ m, n⟩⟩
theorem HI : ∀ (l : List Nat) (n : Nat), n ∈ l → n ≤ l.foldr max 0
 | [], n, h => by cases h
 | a :: l, n, h => by
  rcases aS.1 h with rfl | h
  ·exact Nat.le_max_left _ _
  ·exact dO (HI l n h) (Nat.le_max_right _ _)
theorem Sl.WI {R : sO β} {a : Nat → sO β} (h : Sl R k μ v l) (z : ∀ ys x, R μ ys x → ∃ n, a n μ ys x) (up : ∀ n m ys x, n ≤ m → a n μ ys x → a m μ ys x) : ∃ n, Sl (a n) k μ v l := by
 obtain ⟨A, c, rfl, h1, r, u⟩ := h
 by_cases s : 0 < l.length
 ·obtain ⟨b, off, cs, T, fr, rfl, D, w⟩ := u s
  obtain ⟨G, I, t⟩ := EX (P := fun i x (p : Nat × List Value) => p.2.length = k ∧ a p.1 μ p.2 x ∧ ∀ j y, p.2[j]? = some y → cs[off + i * k + j]? = some y) (m := l) 0 (fun i x q => by
   obtain ⟨ys, g, o, d⟩ := w i x q
   obtain ⟨n, F⟩ := z _ _ o
   exact ⟨(n, ys), g, F, by rw [gQ]; exact d⟩)
  refine ⟨(G.map (·.1)).foldr max 0, _, c, rfl, h1, r, fun _ => ⟨b, off, cs, T, fr, rfl, D, fun i x q => ?_⟩⟩
  obtain ⟨p, hp, g, o, d⟩ := t i x q
  exact ⟨p.2, g, up _ _ _ _ (HI _ _ (bJ.2 ⟨p, dQ hp, rfl⟩)) o, by rw [gQ] at d; exact d⟩
 ·exact ⟨0, A, c, rfl, h1, r, fun h => absurd h s⟩
def nm (e : TypeId) (Rl : sO β) (k : Nat) (μ : mN) (v : Value) (l : List β) (B : List (Nat × Obj)) : Prop := ∃ cl : List (zX k), mw e ym k v cl B ∧ rX (fun c x => Rl μ c.1 x) cl l
variable {e : TypeId} {B : List (Nat × Obj)}
theorem nm.mono (b : Deep Rl k) (h : nm e Rl k μ v l B) (c : mx μ μ') : nm e Rl k μ' v l B := by
 obtain ⟨cl, h1, a⟩ := h
 exact ⟨cl, h1, a.imp (fun _ _ h => b.mono _ _ _ _ c h)⟩
theorem nm.nil (e : TypeId) (Rl : sO β) (k : Nat) (μ : mN) : nm e Rl k μ (.slice none 0 0) [] [] := ⟨[], mw.nil _ _ _, .nil⟩
theorem nm.lit (d : Deep Rl k) {b m : Nat} {ys : List Value} (h : FN Rl k μ ys l) (hm : l.length = m) (g : m ≤ maxLen) (i : ys.length = m * k) : nm e Rl k μ (.slice (some ⟨b, 0, none⟩) m m) l [(b, .cells ys.toArray e (0, 0))] := by
 obtain ⟨cl, c, a⟩ := h.cells d
 exact ⟨cl, mw.lit (by rw [a.length]; exact hm) g c.symm (by simpa using i), a⟩
theorem nm.form (h : nm e Rl k μ v l B) : ∃ A c, v = .slice A l.length c := by
 obtain ⟨cl, h1, a⟩ := h
 rw [← a.length]; exact h1.form
theorem nm.len (h : nm e Rl k μ v l B) : l.length ≤ 9223372036854775807 := by
 obtain ⟨cl, h1, a⟩ := h
 rw [← a.length]; exact h1.len
theorem nm.nd (h : nm e Rl k μ v l B) : (B.map (·.1)).Nodup := let ⟨_, h1, _⟩ := h; h1.nd
theorem nm.isNil {n c : Nat} (h : nm e Rl k μ (.slice none n c) l B) : l = [] := by
 obtain ⟨cl, h1, a⟩ := h
 have := a.length
 rw [h1.isNil] at this
 exact aW this.symm
theorem nm.sl (h : nm e Rl k μ v l B) (c : Deep Rl k) (d : mx μ μ') (hm : ∀ b o, (b, o) ∈ B → μ' b = some o) : Sl Rl k μ' v l := by
 obtain ⟨cl, h1, a⟩ := h
 exact Sl.QK (h1.sl BT hm) (mx.refl _) (a.imp (fun _ _ h => c.mono _ _ _ _ d h))
end
section
variable {β : Type} {Rl : sO β} {k : Nat} {μ : mN} {v : Value} {l : List β} {e : TypeId} {B : List (Nat × Obj)}
variable {dd : Bool} {F : Nat → Prop} {w W : World} {L : List (Nat × Obj)}
theorem nm.Tw (h : nm e Rl k μ v l B) (b : Deep Rl k) (a : ST dd F w W μ L) (c : ∀ p, p ∈ B → p ∈ L) : Sl Rl k (hp W) v l := h.sl b a.lL (fun _ _ d => a.at_ (c _ d))
theorem nm.Lt (h : nm e Rl k μ v l B) (a : ST dd mD w W μ L) (b : ∀ p, p ∈ B → p ∈ L) : Fr w.heap.size v := let ⟨_, h1, _⟩ := h; h1.Lt a b
theorem ST.yZ {Y : List (Nat × Obj)} (d : Deep Rl k) (a : ST dd F w W μ (B ++ Y)) (h : nm e Rl k μ v l B) : ∃ μ', ST dd F w W μ' Y ∧ mx μ μ' ∧ Lo F w μ μ' ∧ Sl Rl k μ' v l := by
 obtain ⟨cl, h1, c⟩ := h
 obtain ⟨μ', b, a2, a4, a3⟩ := ST.Ap a h1 BT
 exact ⟨μ', b, a2, a4, Sl.QK a3 (mx.refl _) (c.imp (fun _ _ h => d.mono _ _ _ _ a2 h))⟩
variable {P : Program} {E : Nat → Value} {d : Option Nat} {ty : TypeId} {pos : String} {af : Array Edge} {g : Option (Nat × Bool)}
theorem nS {t e' : TypeId} {x a : Operand} {u : IntKind} {i : Int} {x0 : β} {A : List Value → Prop} (o : ∀ {ys}, Rl μ ys x0 → A ys) (r : P.underlying t = some (.slice e')) (he : ∀ w, (sizeOf e').run P w = .ok k w) (s : lY E x = v) (m : lY E a = .int u i) (q : Sl Rl k μ v l) (b : 0 ≤ i) (n : l[i.toNat]? = some x0) :
  ∃ p, (∃ ys, A ys ∧ At μ p ys) ∧ ∀ W, nZ P E ⟨d, .indexAddr t x a, ty, pos, af, g⟩ W p W := by
 obtain ⟨p, ys, _, c, h, j⟩ := KZ (d := d) (ty := ty) (pos := pos) (af := af) (g := g) r he s m q b n
 exact ⟨p, ⟨ys, o c, h⟩, j⟩
theorem Bg {x : Operand} {t e' : TypeId} (a : P.underlying t = some (.slice e')) (b : lY E x = v) (h : nm e Rl k μ v l B) : nZ P E ⟨d, .call ⟨.builtin .len, #[x], #[t]⟩, ty, pos, af, g⟩ W (.int .i64 l.length) W := by
 obtain ⟨A, c, rfl⟩ := h.form
 exact Ac a b
theorem nR {t e' : TypeId} {x j : Operand} {D : IntKind} {i : Int} {x0 : β} {A : List Value → Prop} (s : ∀ {ys}, Rl μ ys x0 → A ys) (y : P.underlying t = some (.slice e')) (he : ∀ w, (sizeOf e').run P w = .ok k w) (z : lY E x = v) (q : lY E j = .int D i) (h : nm e Rl k μ v l B) (m : 0 ≤ i) (r : l[i.toNat]? = some x0) :
  ∃ p, (∃ ys, A ys ∧ At (Ca B) p ys ∧ DC B k p i.toNat) ∧ ∀ W, nZ P E ⟨d, .indexAddr t x j, ty, pos, af, g⟩ W p W := by
 obtain ⟨cl, h1, n⟩ := h
 obtain ⟨c, b, u⟩ := n.get r
 obtain ⟨p, a, o⟩ := oS (d := d) (ty := ty) (pos := pos) (af := af) (g := g) y he z q h1 m b
 exact ⟨p, ⟨c.1, s u, a.at h1 BT b, a⟩, o⟩
theorem SC {α d : Type} {a : Nat} {l m r : List α} {b c : List d} (h : oH a l m = some r) (h1 : b.length = l.length) (g : c.length = m.length) : oH a b c = some (b ++ c) ∧ r = l ++ m := by
 unfold oH at h ⊢
 rw [h1, g]
 split at h
 ·rename_i i; cases h; rw [aZ i]; exact ⟨rfl, rfl⟩
 ·cases h
theorem wk {K : Value → World → Prop} {t : TypeId} {a : Nat} {z vs : Value} {m r : List β} {Y : List (Nat × Obj)} {x y : Operand} {i : TypeInfo} (Z : Deep Rl k) (c : ST dd F w W μ (B ++ Y)) (o : 0 < k) (O : P.underlying t = some (.slice e)) (L : P.info? e = some i) (T : i.zero = some z) (s : z.cells.size = k) (q : i.size = k) (n : i.bytes = a) (Q : lY E x = v) (R : lY E y = vs) (I : nm e Rl k μ v l B) (M : D5 Rl k μ W vs m) (J : oH a l m = some r) (h : ∀ W' b R', ST dd F w W' μ (R' ++ Y) → nm e Rl k μ b r R' → K b W') : pv P E ⟨d, .call ⟨.builtin .append, #[x, y], #[t, t]⟩, ty, pos, af, g⟩ W K := by
 obtain ⟨cl, h1, u⟩ := I
 obtain ⟨U, G, A⟩ := M
 obtain ⟨j, rfl⟩ := SC J u.length A.length
 exact oK c BT o Sg O L T s q n Q R h1 G j (fun W' b R' D a2 => h W' b R' D ⟨_, a2, u.append A⟩)
theorem tI {K : Value → World → Prop} {Y : List (Nat × Obj)} {t : TypeId} {x y : Operand} {p : Value} {i : Nat} {x0 x1 : β} {ys : List Value} (n : Deep Rl k) (a : ST dd F w W μ (B ++ Y)) (h : nm e Rl k μ v l B) (u : lY E x = p) (z : lY E y = .agg ys.toArray) (j : Rl μ ys x1) (hp : DC B k p i) (s : l[i]? = some x0) (q : ∀ w, (sizeOf t).run P w = .ok k w) (o : ∀ W' R', ST dd F w W' μ (R' ++ Y) → nm e Rl k μ v (l.set i x1) R' → K undef W') : pv P E ⟨d, .store t x y, ty, pos, af, g⟩ W K := by
 obtain ⟨cl, h1, b⟩ := h
 obtain ⟨c, r, _⟩ := b.get s
 exact Bj (x1 := n.cell j) a h1 BT Sg u z rfl hp r q (fun W' R' m a2 => o W' R' m ⟨_, a2, b.set j i⟩)
end
end Go.Proofs.YtklbhegeiijbjaaGreat
namespace Go.Proofs.YtklbhegeiijbjaaGreat
open Go.RowKit
def nO (dd : Bool) (P : Program) (f : FuncId) (args : List Value) (w : World) (μ0 : mN) (L0 : List (Nat × Obj)) (K : Value → List (Nat × Obj) → mN → Prop) : Prop :=
 Calls P f args.toArray w fun e a => ∃ v L1 μ1, e = .returned v ∧ wZ dd L0 L1 w a ∧ mx μ0 μ1 ∧ Lo (keys L0) w μ0 μ1 ∧ mx μ1 (wW a L1) ∧ K v L1 μ1
theorem nO.nz {dd : Bool} {P : Program} {f : FuncId} {args : List Value} {w : World} {μ0 : mN} {L0 : List (Nat × Obj)} {K : Value → List (Nat × Obj) → mN → Prop} (h : nO true P f args w μ0 L0 K) : nO dd P f args w μ0 L0 K :=
 dW h fun _ _ ⟨v, L1, μ1, h1, a, b⟩ => ⟨v, L1, μ1, h1, a.nz, b⟩
section
variable {dd : Bool} {F : Nat → Prop} {w W W' : World} {μ μ1 : mN} {L L0 L1 L2 : List (Nat × Obj)}
theorem ST.V7 (h : ST dd F w W μ (L0 ++ L)) (g : wZ dd L0 L1 W W') (i : Lo (keys L0) W μ μ1) (d : mx μ1 (wW W' L1)) : ST dd F w W' μ1 (L1 ++ L) := by
 have h1 := h.back g
 refine ⟨h1.os, h1.tape, h1.output, h1.drawn, h1.size, h1.oG, fun b o hm => ?_, fun b o a => ?_, h1.nd⟩
 ·have := d b o hm
  unfold wW at this
  split at this
  ·cases this
  ·exact this
 ·obtain ⟨j, l, k⟩ := h1.box b o a
  refine ⟨j, ?_, k⟩
  rcases aQ.1 a with a | a
  ·cases hm : μ1 b with
   | none => rfl
   | some x =>
    have := d b x hm
    unfold wW at this
    rw [aZ ⟨o, a⟩] at this
    cases this
  ·have c := h.box b o (dZ _ a)
   rw [i b (qj c.1) (HW h.nd a)]
   exact c.2.1
variable {P : Program} {E : Nat → Value} {d : Option Nat} {ty : TypeId} {pos : String} {af : Array Edge} {g : Option (Nat × Bool)}
theorem NR {K : Value → World → Prop} {K' : Value → List (Nat × Obj) → mN → Prop} {f : FuncId} {fv : Operand} {ax : Array Operand} {ats : Array TypeId} {caps : Array Value} {args : List Value} (L0 L2 : List (Nat × Obj)) (a : ST dd F w W μ L) (c : L.Perm (L0 ++ L2)) (u : lY E fv = .func (.func f) #[] caps) (he : ∀ args w, (callFunc f args).run P w = .ok (.enter f args) w) (ha : ax.map (lY E) ++ (#[] : Array Value) = args.toArray) (t : Ht L0 W → (L0.map (·.1)).Nodup → mx μ (wW W L0) → (∀ b o, (b, o) ∈ L2 → wW W L0 b = some o) → nO dd P f (args ++ caps.toList) W μ L0 K') (h : ∀ W' v μ' L1, ST dd F w W' μ' (L1 ++ L2) → mx μ μ' → Lo F w μ μ' → K' v L1 μ' → K v W') : pv P E ⟨d, .call ⟨.value fv, ax, ats⟩, ty, pos, af, g⟩ W K := by
 have i : ax.map (lY E) = args.toArray := by simpa using ha
 refine HV (args := (args ++ caps.toList).toArray) u he (by rw [i]; simp) (dW (t (a.held c) (a.U5 c) (a.VR c) (a.O6 c)) (fun _ W' ⟨v, L1, μ1, h1, k, l, j, m, n⟩ => ⟨v, h1, h W' v μ1 L1 ((a.perm c).V7 k j m) l (fun b s r => j b (eZ s a.size) (fun ⟨o, x⟩ => by
  rcases ((a.perm c).box b o (cK _ x)).2.2 with q | q
  ·omega
  ·exact r q)) n⟩))
end
section
variable {P : Program} {E : Nat → Value} {W : World} {d : Option Nat} {ty : TypeId} {pos : String} {af : Array Edge} {g : Option (Nat × Bool)}
 {dd : Bool} {F : Nat → Prop} {w : World} {μ : mN} {L : List (Nat × Obj)}
def HG {α : Type} (a : Nat) (z : α) (n : Int) : Option (List α) := if 0 ≤ n ∧ (a : Int) * n ≤ 140737488355328 ∧ n ≤ (maxLen : Int) then some (List.replicate n.toNat z) else none
theorem La {α : Type} {enc : α → List Value} {k : Nat} (hk : ∀ x, (enc x).length = k) (a : 0 < k) (z : α) (n : Nat) : (madeCells (enc z).toArray (n * k)).toList = ((List.replicate n z).map enc).flatten := by
 apply List.ext_getElem
 ·rw [sJ hk, dJ, size_madeCells]; simp
 ·intro i h1 g
  rw [dJ, size_madeCells] at h1
  have h : i / k < n := by rw [jy a]; exact h1
  have c : i % k < (enc z).length := by rw [hk]; exact Nat.mod_lt _ a
  have b := zH hk (List.replicate n z) (i / k) z (by rw [List.getElem?_replicate, aZ h]) (i % k) _ (dF c)
  rw [show i / k * k + i % k = i by rw [Nat.mul_comm]; exact Nat.div_add_mod i k] at b
  rw [dF g] at b
  have d := fQ b
  rw [d]
  simp only [madeCells, Array.getElem_toList, Array.getElem_map, Array.getElem_range, eF, hk]
  rw [getElem!_pos _ _ (by simpa using c)]
  simp
theorem Ik {K : Value → World → Prop} {α : Type} {e t : TypeId} {enc : α → List Value} {k a : Nat} {b : Value} {n : Int} {j : IntKind} {z : α} {r : List α} {x y : Operand} {i : TypeInfo} (l : ST dd F w W μ L) (hk : ∀ x, (enc x).length = k) (q : 0 < k) (M : P.underlying t = some (.slice e)) (I : P.info? e = some i) (R : i.zero = some b) (s : i.size = k) (o : i.bytes = a) (G : b.cells = (enc z).toArray) (O : lY E x = .int j n) (Q : lY E y = .int j n) (c : HG a z n = some r) (h : ∀ W' u R', ST dd F w W' μ (R' ++ L) → mw e enc k u r R' → K u W') : pv P E ⟨d, .makeSlice t x y, ty, pos, af, g⟩ W K := by
 unfold HG at c
 split at c
 case isFalse => cases c
 rename_i m
 cases c
 obtain ⟨v, h1, A⟩ := m
 subst s; subst o
 have D : n.toNat ≤ maxLen := by omega
 have J := run_make (P := P) W t e i b M I R j j n n v (Int.le_refl _) (by omega) (by simp only [maxLen] at A; omega)
 refine .inl ⟨.slice (some ⟨W.heap.size, 0, none⟩) n.toNat n.toNat, W.alloc (.cells (madeCells b.cells (n.toNat * i.size)) e), ?_, h _ _ [(W.heap.size, .cells (madeCells b.cells (n.toNat * i.size)) e)] (l.alloc _) ?_⟩
 ·show (do pure (.value (← Instr.makeSlice t (lY E x) (lY E y))) : Sem Next).run P W = _
  rw [O, Q]
  simp only [cN, J, bW, dP]
 ·exact mw.lit (by rw [jz]) D (by rw [G]; exact La hk q z _) (by rw [size_madeCells])
end
theorem uA.Er {κ γ : Type} {kenc : κ → Value} {Q : Value → γ → List (Nat × Obj) → Prop} {μ : mN} {v : Value} {l : List (κ × γ)} (h : uA kenc Q μ v l) : v.oneCell' = true := by
 obtain ⟨a, R, h, _⟩ := h
 obtain ⟨m, rfl⟩ := h.form
 rfl
theorem sS.Er {κ β : Type} {kenc : κ → Value} {vf : β → Value} {μ : mN} {v : Value} {l : List (κ × β)} (h : sS kenc vf μ v l) : v.oneCell' = true := by
 obtain ⟨m, rfl⟩ := h.form
 rfl
end Go.Proofs.YtklbhegeiijbjaaGreat
