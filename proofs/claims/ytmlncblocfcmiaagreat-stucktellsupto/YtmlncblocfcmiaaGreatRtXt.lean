/- a part of a proof of StuckTells -/
import Derived.WalkKit
import Derived.WalkLawsBesides
import Derived.Maps.AppendAt
import Derived.OrdersHeld
import Derived.Laws.IdiomStrings
import Derived.Maps.RangeRun
import Derived.Lib.BytesEntry
import Derived.Lib.Bytealg
import Derived.Laws.Externs
import Derived.ChangeKeysEq
import Derived.Deep.AppendSrc
import Derived.Laws.MakeOwn
set_option linter.all false
namespace Go.Proofs.YtmlncblocfcmiaaGreat
open Go.RowKit
def aA := @Option.bind_some
def aC := @Bool.false_eq_true
def aF := @List.length_append
def aH := @Int.natCast_nonneg
def aK := @if_false
def aN := @List.drop_length
def aO := @List.length_cons
def aP := @List.append_assoc
def aR := @List.mem_cons
def aS := @Nat.exists_eq_succ_of_ne_zero
def aT := @if_true
def aU := @List.eq_nil_of_length_eq_zero
def aV := @List.mem_append
def aW := @beq_self_eq_true
def aY := @Nat.le_refl
def aZ := @List.nil_append
def bA := @List.cons.injEq
def bB := @List.Perm.refl
def bD := @if_pos
def bE := @Nat.lt_succ_self
def bF := @Bool.and_eq_true
def bH := @List.append_nil
def bI := @if_neg
def bJ := @run_underlying
def bK := @List.getElem?_eq_some_iff
def bL := @List.mem_map
def bN := @congrArg
def bO := @decide_eq_true_eq
def bP := @List.map_cons
def bQ := @List.flatten_cons
def bR := @List.cons_append
def bT := @Result.andThen_ok
def bU := @Bool.eq_iff_iff
def bW := @List.length_nil
def bX := @List.mem_singleton
def bY := @List.nodup_append
def cA := @decide_true
def cD := @decide_false
def cE := @List.Perm.append_left
def cF := @Sem.run_bind
def cI := @List.pairwise_cons
def cJ := @List.mem_append_left
def cK := @Bool.not_true
def cL := @List.map_append
def cM := @List.mem_filter
def cN := @List.getElem?_eq_getElem
def cO := @Nat.mul_le_mul_right
def cR := @Nat.add_mul
def cT := @List.flatten_append
def cV := @List.pairwise_append
def cY := @List.length_filter_le
def dA := @List.length_map
def dC := @Sem.run_pure
def dD := @List.eq_nil_or_concat
def dF := @List.length_take
def dG := @List.flatten_nil
def dH := @List.filter_cons
def dI := @List.mem_of_getElem?
def dJ := @Int.toNat_natCast
def dK := @Bool.not_false
def dL := @List.getElem?_take_of_lt
def dM := @List.getElem?_drop
def dN := @and_true
def dO := @Array.length_toList
def dQ := @Array.getElem?_eq_some_iff
def dR := @List.not_mem_nil
def dT := @Nat.le_trans
def dU := @Addr.add_lit
def dV := @Calls.mono
def dW := @List.take_of_length_le
def dY := @List.nodup_cons
def dZ := @Nat.min_eq_left
def ej := @Bool.true_and
def ek := @Array.getElem?_toList
def eo := @List.concat_eq_append
def et := @DataW.trod_struct
def ev := @Nat.add_assoc
def ew := @List.size_toArray
def ey := @Array.getElem?_modify
def ez := @List.mem_append_right
def eC := @Bool.eq_false_or_eq_true
def eE := @Option.map_some
def eF := @Nat.lt_of_lt_of_le
def eG := @List.length_eq_zero_iff
def eJ := @List.any_eq_true
def eK := @List.findIdx?_eq_some_iff_getElem
def eO := @List.ext_getElem?
def eT := @List.getElem?_eq_none
def eU := @Nat.eq_zero_or_pos
def eV := @List.length_zipIdx
def eW := @List.map_nil
def eX := @Nat.zero_le
def eY := @beq_eq_false_iff_ne
def eZ := @Array.getD_eq_getD_getElem?
def fe := @Nat.zero_add
def fg := @List.map_map
def fk := @List.getElem?_append_right
def fl := @List.findIdx?_cons
def fp := @List.perm_append_comm
def fq := @List.take_append_drop
def ft := @Classical.byContradiction
def fu := @List.getElem?_set
def fw := @List.getElem?_map
def fz := @List.mem_cons_of_mem
def fE := @List.sum_cons
def fF := @ByteArray.toList_eq
def fH := @List.perm_middle
def fI := @List.take_append
def fJ := @List.all_eq_true
def fL := @Bool.not_eq_true
def fM := @List.getElem?_take
def fO := @List.filter_eq_nil_iff
def fP := @List.find?_cons
def fQ := @Bool.or_eq_true
def fR := @List.filter_nil
def fU := @List.take_length_add_append
def fV := @Function.comp_def
def fW := @List.pairwise_map
def fX := @Option.some.injEq
def fY := @List.perm_append_comm_assoc
def fZ := @Bool.not_eq_true'
def ga := @List.getElem?_append
def gb := @beq_iff_eq
def gd := @or_false
def gh := @List.perm_append_singleton
def gi := @Bool.false_and
def gk := @Bool.not_not
def gl := @List.getElem?_append_left
def gm := @List.findIdx?_eq_none_iff
def gn := @List.filter_eq_self
def gp := @List.filter_sublist
def gq := @List.any_cons
def gr := @Oper.upon_value
def gu := @Oper.upon_enter
def gv := @List.foldl_cons
def gx := @eq_iff_iff
def gy := @List.find?_eq_none
def gz := @cell_of_row
def gA := @List.getElem?_cons_zero
def gB := @List.pairwise_mergeSort
def gC := @List.pairwise_singleton
def gD := @Oper.upon_skip
def gE := @List.take_take
def gF := @List.findIdx?_map
def gG := @Nat.add_zero
def gH := @List.Perm.append_right
def gM := @Bool.and_assoc
def gN := @List.flatMap_cons
def gO := @List.singleton_append
def gP := @Nat.div_lt_iff_lt_mul
def gQ := @List.set_append_right
def gS := @List.length_drop
def gT := @Option.getD_some
def gV := @List.eq_nil_iff_forall_not_mem
def gW := @List.all_cons
def gY := @List.findIdx?_append
def gZ := @List.take_append_of_le_length
def ib := @List.forall_mem_cons
def ie := @List.length_set
def ij := @List.Perm.nodup_iff
def iq := @run_callFunc_extern
def ir := @List.mergeSort_perm
def iu := @List.flatMap_append
def iv := @List.drop_length_add_append
def iB := @run_loadCells_list
def iC := @List.drop_take
def iD := @List.map_mergeSort
def iE := @List.filter_append
def iF := @UInt8.toNat_lt
def iG := @Nat.le_succ
def iH := @run_storeCells_at
def iK := @UInt8.ofNat_toNat
def iL := @List.find?_append
def iM := @of_decide_eq_true
def iN := @ByteArray.ext
def iR := @Bool.and_self
def iS := @List.mem_flatten
def iT := @List.zipIdx_cons
def iY := @List.mem_flatMap
def jf := @Nat.one_mul
def jg := @getD_set_ne
def jl := @mem_ready
def nQ (E : Nat → Value) (d : Nat) (v : Value) : Nat → Value := fun t => if t = d then v else E t
def jG (E : Nat → Value) : Operand → Value
 | .tmp t => E t
 | .const v => v
 | .global g => .pointer (some ⟨g, 0, none⟩)
 | .func f => .func (.func f) #[] #[]
def Ag (n : Nat) (a : Act) (E : Nat → Value) : Prop := a.tmps.size = n ∧ a.defers = [] ∧ ∀ t, a.tmps.getD t undef = E t
section
variable {n : Nat} {a : Act} {E : Nat → Value}
theorem Ag.eval (h : Ag n a E) : a.eval = jG E := by
 funext x
 cases x with
 | tmp t => exact h.2.2 t
 | const v => rfl
 | global g => rfl
 | func f => rfl
theorem Ag.put (h : Ag n a E) {d : Nat} (i : d < n) (v : Value) : Ag n (a.put (some d) v) (nQ E d v) := by
 refine ⟨by simp [Act.put, h.1], h.2.1, fun t => ?_⟩
 have g := h.2.2 t
 simp only [Act.put, nQ]
 by_cases b : t = d
 ·subst b
  simp [h.1, i]
 ·have : ¬ d = t := fun e => b e.symm
  rw [bI b, ← g]
  simp [eZ, this]
theorem Ag.yY (h : Ag n a E) (v : Value) : Ag n (a.put none v) E := h
theorem Ag.yield (h : Ag n a E) {ops : Array Oper} {j t : Nat} {b : Bool} (g : (ops[j]?).bind (·.dst) = some t) (k : t < n) (l : E t = .bool b) : yielded ops a.tmps j = some b := by
 have d := h.2.2 t
 have i : a.tmps[t]? = some (E t) := by
  rw [← d]
  simp [eZ, h.1, k]
 simp [yielded, g, i, l]
end
abbrev qF := Exit → (Nat → Value) → World → Prop
def lift (n : Nat) (Q : qF) : Exit → Act → World → Prop
 | .panic _, _, _ => False
 | .outgrown, _, _ => False
 | e, a, w => ∃ E, Ag n a E ∧ Q e E w
def CW (P : Program) (n : Nat) (c : Code) (Q : qF) (E : Nat → Value) (W : World) : Prop := ∀ a, Ag n a E → c.wp P (lift n Q) a W
def LW (P : Program) (n : Nat) (ops : Array Oper) (Q : qF) (l : List Oper) (E : Nat → Value) (W : World) : Prop := ∀ a, Ag n a E → wpList P ops (lift n Q) l a W
def qo (K : (Nat → Value) → World → Prop) (Q : qF) : qF
 | .normal, E, W => K E W
 | e, E, W => Q e E W
def wC (id : Nat) (Q : qF) : qF
 | .exit j, E, W => if j = id then Q .normal E W else Q (.exit j) E W
 | e, E, W => Q e E W
section
variable {P : Program} {n : Nat} {Q : qF} {E : Nat → Value} {W : World} {c x y : Code} {ops : Array Oper} {rest : List Oper} {o : Oper}
theorem GR {Q' : qF} (h : CW P n c Q E W) (g : ∀ e E W, Q e E W → Q' e E W) : CW P n c Q' E W := fun a ha =>
 wp_mono (h a ha) (fun e _ _ h => by
  cases e with
  | panic c => exact h
  | outgrown => exact h
  | _ => obtain ⟨E', b, d⟩ := h; exact ⟨E', b, g _ _ _ d⟩)
theorem jK (h : CW P n x (qo (fun E W => CW P n y Q E W) Q) E W) : CW P n (.seq x y) Q E W := fun a ha =>
 wp_seq (wp_mono (h a ha) (fun e d i h => by
  cases e with
  | normal => obtain ⟨E', b, g⟩ := h; exact g d b
  | _ => exact h))
theorem kP (h : Q .normal E W) : CW P n .skip Q E W := fun _ ha => wp_skip ⟨E, ha, h⟩
theorem jU (h : Q .ret E W) : CW P n .ret Q E W := fun _ ha => wp_ret ⟨E, ha, h⟩
theorem mZ {id : Nat} (h : Q (.exit id) E W) : CW P n (.exit id) Q E W := fun _ ha => wp_exit ⟨E, ha, h⟩
theorem ll {id : Nat} (h : CW P n c (wC id Q) E W) : CW P n (.block id c) Q E W := fun a ha =>
 wp_block (wp_mono (h a ha) (fun e i k h => by
  cases e with
  | exit j =>
   obtain ⟨E', b, d⟩ := h
   simp only [Exit.inBlock]
   simp only [wC] at d
   split at d
   ·rename_i g; rw [bD g]; exact ⟨E', b, d⟩
   ·rename_i g; rw [bI g]; exact ⟨E', b, d⟩
  | _ => exact h))
theorem Le {co : Operand} {b : Bool} (d : jG E co = .bool b) (i : b = true → CW P n x Q E W) (g : b = false → CW P n y Q E W) : CW P n (.cond co x y) Q E W := fun a ha => by
 refine wp_cond_split (t := b) (by rw [ha.eval]; exact d) (fun h => i h a ha) (fun h => g h a ha)
theorem wK {co : Operand} (a : jG E co = .bool true) (h : CW P n x Q E W) : CW P n (.cond co x y) Q E W := Le a (fun _ => h) (fun h => by cases h)
theorem rE {co : Operand} (a : jG E co = .bool false) (h : CW P n y Q E W) : CW P n (.cond co x y) Q E W := Le a (fun h => by cases h) (fun _ => h)
theorem jI {id : Nat} {l : List Oper} (h : LW P n l.toArray Q l E W) : CW P n (.region id l.toArray false) Q E W := fun a ha => wp_region_lit (h a ha)
theorem jW (h : Q .normal E W) : LW P n ops Q [] E W := fun _ ha => wpList_nil ⟨E, ha, h⟩
theorem H0 {P : Program} {c : Code} {Q : Exit → Act → World → Prop} {a : Act} {w : World} (I : Nat → Act → World → Prop) (m : Nat) (u : I m a w) (round : ∀ m a w, I m a w → c.wp P (Exit.then (fun q r => ∃ y, y < m ∧ I y q r) Q) a w) : (Code.loop c).wp P Q a w := by
 intro b k cs
 have key : ∀ m a w, I m a w → ∃ e q r, Q e q r ∧ Arrives P (lone (b.at a (.code c :: .inLoop c :: k)) cs w) b k cs e q r := by
  intro m
  induction m using Nat.strongRecOn with
  | _ m ih =>
   intro a w A
   obtain ⟨e, g, h, j, d⟩ := round m a w A b (.inLoop c :: k) cs
   cases e with
   | normal =>
    obtain ⟨y, z, n⟩ := j
    obtain ⟨t, s, v, p, i⟩ := ih y z g h n
    exact ⟨t, s, v, p, .of_steps (Steps.trans d (.one step_inLoop)) i⟩
   | exit id => exact ⟨_, g, h, j, .pass (x := .inLoop c) rfl (fun _ _ => .inl (by simp)) d⟩
   | goto l => exact ⟨_, g, h, j, .pass (x := .inLoop c) rfl (fun _ _ => .inl (by simp)) d⟩
   | ret => exact ⟨_, g, h, j, .pass (x := .inLoop c) rfl (fun _ _ => .inl (by simp)) d⟩
   | panic D => exact ⟨_, g, h, j, .pass (x := .inLoop c) rfl (fun _ _ => .inl (by simp)) d⟩
   | outgrown => exact ⟨_, g, h, j, .pass (x := .inLoop c) rfl (fun _ _ => .inl (by simp)) d⟩
 obtain ⟨e, q, r, j, d⟩ := key m a w u
 exact ⟨e, q, r, j, .of_steps (.one step_loop) d⟩
theorem mU (I : Nat → (Nat → Value) → World → Prop) (m : Nat) (b : I m E W) (round : ∀ m E W, I m E W → CW P n c (qo (fun E' W' => ∃ d, d < m ∧ I d E' W') Q) E W) : CW P n (.loop c) Q E W := fun a ha =>
 H0 (fun m a w => ∃ E, Ag n a E ∧ I m E w) m ⟨E, ha, b⟩ (fun m a w ⟨E, ha, k⟩ =>
  wp_mono (round m E w k a ha) (fun e l p h => by
   cases e with
   | normal => obtain ⟨E', i, d, j, g⟩ := h; exact ⟨d, j, E', i, g⟩
   | _ => exact h))
def sN (n : Nat) (ops : Array Oper) (E : Nat → Value) (o : Oper) : Prop :=
 o.guard = none ∨ ∃ j want t, o.guard = some (j, want) ∧ (ops[j]?).bind (·.dst) = some t ∧ t < n ∧ E t = .bool want
theorem sN.of {a : Act} (h : sN n ops E o) (ha : Ag n a E) : Region.wanted o (yielded ops a.tmps) = true := by
 rcases h with h | ⟨j, want, t, d, g, i, b⟩
 ·simp [Region.wanted, h]
 ·simp [Region.wanted, d, ha.yield g i b]
theorem L8 {d : Nat} {v : Value} {W' : World} (hw : sN n ops E o) (b : o.dst = some d) (g : d < n) (i : (execOp (jG E) o).run P W = .ok (.value v) W') (h : LW P n ops Q rest (nQ E d v) W') : LW P n ops Q (o :: rest) E W := fun a ha => by
 unfold wpList
 rw [bD (hw.of ha)]
 refine .inl ?_
 unfold Oper.wp
 rw [ha.eval, i, gr, b]
 exact h _ (ha.put g v)
theorem NV {W' : World} (hw : sN n ops E o) (b : o.dst = none) (d : (execOp (jG E) o).run P W = .ok .skip W') (h : LW P n ops Q rest E W') : LW P n ops Q (o :: rest) E W := fun a ha => by
 unfold wpList
 rw [bD (hw.of ha)]
 refine .inl ?_
 unfold Oper.wp
 rw [ha.eval, d, gD, b]
 exact h _ (ha.yY _)
theorem M3 {f : FuncId} {args : Array Value} {d : Nat} (hw : sN n ops E o) (g : o.dst = some d) (j : d < n) (k : (execOp (jG E) o).run P W = .ok (.enter f args) W) (h : Calls P f args W fun e b => ∃ v, e = .returned v ∧ LW P n ops Q rest (nQ E d v) b) : LW P n ops Q (o :: rest) E W := fun a ha => by
 unfold wpList
 rw [bD (hw.of ha)]
 refine .inl ?_
 unfold Oper.wp
 rw [ha.eval, k, gu]
 refine h.mono ?_
 rintro e b ⟨v, rfl, i⟩
 simp only [g]
 exact i _ (ha.put j v)
theorem QU {d j t : Nat} {want : Bool} (g : o.dst = some d) (l : d < n) (i : o.guard = some (j, want)) (k : (ops[j]?).bind (·.dst) = some t) (m : t < n) (b : E t = .bool (!want)) (h : LW P n ops Q rest (nQ E d undef) W) : LW P n ops Q (o :: rest) E W := fun a ha => by
 unfold wpList
 have p := ha.yield k m b
 rw [bI (by simp [Region.wanted, i, p])]
 rw [g]
 exact h _ (ha.put l _)
end
end Go.Proofs.YtmlncblocfcmiaaGreat
namespace Go.Proofs.YtmlncblocfcmiaaGreat
open Go.RowKit
variable {dd : Bool}
abbrev kl := Nat → Option Obj
def hp (W : World) : kl := fun b => W.heap[b]?
def tR (dd : Bool) (a b : Nat) : Prop := dd = true → a ≤ b
theorem tR.of {dd : Bool} {a b : Nat} (h : a ≤ b) : tR dd a b := fun _ => h
theorem tR.trans {dd : Bool} {a b c : Nat} (h : tR dd a b) (k : tR dd b c) : tR dd a c := fun e => dT (h e) (k e)
structure Ex (dd : Bool) (w W : World) : Prop where
 os : W.os = w.os
 tape : W.tape = w.tape
 output : W.output = w.output
 drawn : tR dd w.drawn W.drawn
 size : w.heap.size ≤ W.heap.size
 mo : ∀ b, b < w.heap.size → W.heap[b]? = w.heap[b]?
theorem Ex.refl (w : World) : Ex dd w w := ⟨rfl, rfl, rfl, tR.of (aY _), aY _, fun _ _ => rfl⟩
theorem Ex.trans {a b c : World} (h : Ex dd a b) (k : Ex dd b c) : Ex dd a c :=
 ⟨k.os.trans h.os, k.tape.trans h.tape, k.output.trans h.output, tR.trans h.drawn k.drawn, dT h.size k.size, fun i d => (k.mo i (eF d h.size)).trans (h.mo i d)⟩
theorem Ex.drew (w : World) : Ex dd w w.drew := ⟨rfl, rfl, rfl, tR.of (iG _), aY _, fun _ _ => rfl⟩
theorem Ex.alloc (w : World) (o : Obj) : Ex dd w (w.alloc o) := ⟨rfl, rfl, rfl, tR.of (aY _), by show w.heap.size ≤ (w.heap.push o).size; simp, fun k hk => Below.heap_alloc w o k hk⟩
theorem Ex.li {w W : World} (h : Ex true w W) : Ex dd w W := ⟨h.os, h.tape, h.output, tR.of (h.drawn rfl), h.size, h.mo⟩
def kd (μ μ' : kl) : Prop := ∀ b o, μ b = some o → μ' b = some o
theorem kd.refl (μ : kl) : kd μ μ := fun _ _ h => h
theorem kd.trans {a b c : kl} (h : kd a b) (k : kd b c) : kd a c := fun x o d => k x o (h x o d)
structure ST (dd : Bool) (F : Nat → Prop) (w W : World) (μ : kl) (L : List (Nat × Obj)) : Prop where
 os : W.os = w.os
 tape : W.tape = w.tape
 output : W.output = w.output
 drawn : tR dd w.drawn W.drawn
 size : w.heap.size ≤ W.heap.size
 mo : ∀ b, b < w.heap.size → ¬ F b → W.heap[b]? = w.heap[b]?
 mem : ∀ b o, μ b = some o → W.heap[b]? = some o
 box : ∀ b o, (b, o) ∈ L → W.heap[b]? = some o ∧ μ b = none ∧ (w.heap.size ≤ b ∨ F b)
 nd : (L.map (·.1)).Nodup
def ku : Nat → Prop := fun _ => False
theorem ST.start (w : World) : ST dd ku w w (hp w) [] :=
 ⟨rfl, rfl, rfl, tR.of (aY _), aY _, fun _ _ _ => rfl, fun _ _ h => h, fun _ _ h => (by cases h), by simp⟩
section
variable {F : Nat → Prop} {w W W' : World} {μ μ' : kl} {L L' : List (Nat × Obj)}
theorem ST.ex (h : ST dd ku w W μ L) : Ex dd w W := ⟨h.os, h.tape, h.output, h.drawn, h.size, fun b a => h.mo b a (fun x => x)⟩
theorem Nd (W : World) (o : Obj) : (W.alloc o).heap[W.heap.size]? = some o := heap_alloc_new W o
theorem nS {W : World} {b : Nat} {o : Obj} (h : W.heap[b]? = some o) : b < W.heap.size := (dQ.1 h).1
theorem ST.drew (h : ST dd F w W μ L) : ST dd F w W.drew μ L :=
 ⟨h.os, h.tape, h.output, tR.trans h.drawn (tR.of (iG _)), h.size, h.mo, h.mem, h.box, h.nd⟩
theorem ST.Gn (h : ST dd F w W μ L) {b : Nat} {o : Obj} (a : (b, o) ∈ L) : b < W.heap.size := nS (h.box b o a).1
theorem ST.alloc (h : ST dd F w W μ L) (o : Obj) : ST dd F w (W.alloc o) μ ((W.heap.size, o) :: L) := by
 refine ⟨h.os, h.tape, h.output, h.drawn, dT h.size (Ex.alloc (dd := true) W o).size, fun b a j => ?_, fun b d a => ?_, fun b d a => ?_, ?_⟩
 ·rw [(Ex.alloc (dd := true) W o).mo b (eF a h.size)]; exact h.mo b a j
 ·have := h.mem b d a
  rw [(Ex.alloc (dd := true) W o).mo b (nS this)]; exact this
 ·rcases aR.1 a with e | a
  ·cases e
   refine ⟨Nd W o, ?_, .inl h.size⟩
   cases hm : μ W.heap.size with
   | none => rfl
   | some x => have := nS (h.mem _ _ hm); omega
  ·obtain ⟨h1, g, i⟩ := h.box b d a
   exact ⟨by rw [(Ex.alloc (dd := true) W o).mo b (nS h1)]; exact h1, g, i⟩
 ·simp only [bP, dY]
  refine ⟨fun hm => ?_, h.nd⟩
  obtain ⟨⟨b, d⟩, a, e⟩ := bL.1 hm
  have := h.Gn a
  simp at e
  omega
theorem ST.put {A B : List (Nat × Obj)} {b : Nat} {o n : Obj} (h : ST dd F w W μ (A ++ (b, o) :: B)) (t : W'.os = W.os ∧ W'.tape = W.tape ∧ W'.output = W.output ∧ W.drawn ≤ W'.drawn ∧ W'.heap.size = W.heap.size) (g : ∀ k, k ≠ b → W'.heap[k]? = W.heap[k]?) (u : W'.heap[b]? = some n) : ST dd F w W' μ (A ++ (b, n) :: B) := by
 obtain ⟨h1, p, q, r, s⟩ := t
 have d := h.box b o (by simp)
 have a := h.nd
 simp only [cL, bP] at a
 have i : ∀ x o, (x, o) ∈ A → x ≠ b := fun x o l e => by
  subst e
  have := (bY.1 a).2.2 x (bL.2 ⟨_, l, rfl⟩) x (by simp)
  exact this rfl
 have j : ∀ x o, (x, o) ∈ B → x ≠ b := fun x o l e => by
  subst e
  have := (dY.1 (bY.1 a).2.1).1
  exact this (bL.2 ⟨_, l, rfl⟩)
 refine ⟨h1.trans h.os, p.trans h.tape, q.trans h.output, tR.trans h.drawn (tR.of r), by rw [s]; exact h.size, fun k hk m => ?_, fun k x hk => ?_, fun k x hk => ?_, by simpa using a⟩
 ·rw [g k (fun e => by subst e; rcases d.2.2 with h | h; omega; exact m h)]
  exact h.mo k hk m
 ·rw [g k (fun e => by subst e; rw [d.2.1] at hk; cases hk)]
  exact h.mem k x hk
 ·rcases aV.1 hk with hk | hk
  ·rw [g k (i k x hk)]; exact h.box k x (by simp [hk])
  ·rcases aR.1 hk with e | hk
   ·cases e; exact ⟨u, d.2⟩
   ·rw [g k (j k x hk)]; exact h.box k x (by simp [hk])
def Lo (F : Nat → Prop) (w : World) (μ μ' : kl) : Prop := ∀ b, b < w.heap.size → ¬ F b → μ' b = μ b
theorem Lo.refl {F : Nat → Prop} {w : World} {μ : kl} : Lo F w μ μ := fun _ _ _ => rfl
theorem Lo.trans {F : Nat → Prop} {w : World} {a b c : kl} (h : Lo F w a b) (k : Lo F w b c) : Lo F w a c := fun x g d => (k x g d).trans (h x g d)
def grow (μ : kl) (W W' : World) : kl := fun b => if b < W.heap.size then μ b else W'.heap[b]?
theorem ST.Et (h : ST dd F w W μ L) {b : Nat} {o : Obj} (a : μ b = some o) : b < W.heap.size := nS (h.mem b o a)
theorem ST.call (h : ST dd F w W μ L) (d : Ex dd W W') : ST dd F w W' (grow μ W W') L := by
 refine ⟨d.os.trans h.os, d.tape.trans h.tape, d.output.trans h.output, tR.trans h.drawn d.drawn, dT h.size d.size, fun b a k => ?_, fun b o a => ?_, fun b o a => ?_, h.nd⟩
 ·rw [d.mo b (eF a h.size)]; exact h.mo b a k
 ·unfold grow at a
  split at a
  ·rename_i g; rw [d.mo b g]; exact h.mem b o a
  ·exact a
 ·obtain ⟨h1, i, j⟩ := h.box b o a
  exact ⟨by rw [d.mo b (nS h1)]; exact h1, by unfold grow; rw [bD (nS h1)]; exact i, j⟩
theorem ST.NA (h : ST dd F w W μ L) (W' : World) : kd μ (grow μ W W') := fun b o a => by
 unfold grow; rw [bD (h.Et a)]; exact a
theorem ST.li (h : ST dd F w W μ' L) (d : kd μ μ') : ST dd F w W μ L :=
 ⟨h.os, h.tape, h.output, h.drawn, h.size, h.mo, fun b o a => h.mem b o (d b o a), fun b o a => by
  obtain ⟨h1, g, i⟩ := h.box b o a
  refine ⟨h1, ?_, i⟩
  cases hm : μ b with
  | none => rfl
  | some x => (have := d b x hm; rw [g] at this; cases this), h.nd⟩
theorem ST.Ic (h : ST dd F w W μ L) (a : Ex dd W W') : ST dd F w W' μ L := (h.call a).li (h.NA W')
theorem ST.jD (h : ST dd F w W μ L) : kd μ (hp W) := h.mem
def Ky (μ : kl) (b : Nat) (o : Obj) : kl := fun k => if k = b then some o else μ k
theorem ST.G8 {A B : List (Nat × Obj)} {b : Nat} {o : Obj} (h : ST dd F w W μ (A ++ (b, o) :: B)) : ST dd F w W (Ky μ b o) (A ++ B) := by
 have g := h.box b o (by simp)
 have a := h.nd
 simp only [cL, bP] at a
 have j : ∀ x y, (x, y) ∈ A ++ B → x ≠ b := fun x y d e => by
  subst e
  rcases aV.1 d with d | d
  ·exact (bY.1 a).2.2 x (bL.2 ⟨_, d, rfl⟩) x (by simp) rfl
  ·exact (dY.1 (bY.1 a).2.1).1 (bL.2 ⟨_, d, rfl⟩)
 refine ⟨h.os, h.tape, h.output, h.drawn, h.size, h.mo, fun k x hk => ?_, fun k x hk => ?_, ?_⟩
 ·unfold Ky at hk
  split at hk
  ·rename_i e; cases hk; rw [e]; exact g.1
  ·exact h.mem k x hk
 ·have i : (k, x) ∈ A ++ (b, o) :: B := by
   rcases aV.1 hk with h | h <;> simp [h]
  obtain ⟨h1, l, m⟩ := h.box k x i
  exact ⟨h1, by unfold Ky; rw [bI (j k x hk)]; exact l, m⟩
 ·have : (A ++ B).Sublist (A ++ (b, o) :: B) := List.Sublist.append (List.Sublist.refl A) (List.sublist_cons_self _ _)
  exact List.Nodup.sublist (this.map _) h.nd
theorem ST.Hd {A B : List (Nat × Obj)} {b : Nat} {o : Obj} (h : ST dd F w W μ (A ++ (b, o) :: B)) : kd μ (Ky μ b o) := fun k x hk => by
 unfold Ky
 split
 ·rename_i e; subst e; rw [(h.box k o (by simp)).2.1] at hk; cases hk
 ·exact hk
theorem ST.ML {A B : List (Nat × Obj)} {b : Nat} {o : Obj} (h : ST dd F w W μ (A ++ (b, o) :: B)) : Lo F w μ (Ky μ b o) := fun k hk d => by
 refine bI (fun e => ?_)
 subst e
 rcases (h.box k o (by simp)).2.2 with a | a
 ·omega
 ·exact d a
theorem ST.drop {A B : List (Nat × Obj)} {p : Nat × Obj} (h : ST dd F w W μ (A ++ p :: B)) : ST dd F w W μ (A ++ B) :=
 (h.G8 (b := p.1) (o := p.2)).li h.Hd
end
abbrev pE (α : Type) := kl → List Value → α → Prop
def Sl {α : Type} (R : pE α) (k : Nat) (μ : kl) (v : Value) (l : List α) : Prop :=
 ∃ A c, v = .slice A l.length c ∧ l.length ≤ c ∧ c ≤ maxLen ∧ (0 < l.length → ∃ b off cs T fr, A = some ⟨b, off, none⟩ ∧ μ b = some (.cells cs T fr) ∧
  ∀ i x, l[i]? = some x → ∃ ys, ys.length = k ∧ R μ ys x ∧ ∀ j y, ys[j]? = some y → cs[off + i * k + j]? = some y)
def At (μ : kl) (v : Value) (ys : List Value) : Prop :=
 ∃ b off cs T fr, v = .pointer (some ⟨b, off, none⟩) ∧ μ b = some (.cells cs T fr) ∧ ∀ j y, ys[j]? = some y → cs[off + j]? = some y
def Fr (B : Nat) (v : Value) : Prop := ∀ b, v.ownBlock = some b → B ≤ b
def Il {α : Type} (R : pE α) : Prop := ∀ μ μ' ys x, kd μ μ' → R μ ys x → R μ' ys x
def Pl {α : Type} (enc : α → List Value) : pE α := fun _ ys x => ys = enc x
theorem Pl.mono {α : Type} (enc : α → List Value) : Il (Pl enc) := fun _ _ _ _ _ h => h
theorem Sl.mono {α : Type} {R : pE α} (t : Il R) {k : Nat} {μ μ' : kl} {v : Value} {l : List α} (h : Sl R k μ v l) (d : kd μ μ') : Sl R k μ' v l := by
 obtain ⟨A, c, h1, g, j, m⟩ := h
 refine ⟨A, c, h1, g, j, fun u => ?_⟩
 obtain ⟨b, off, cs, T, fr, n, p, q⟩ := m u
 exact ⟨b, off, cs, T, fr, n, d _ _ p, fun i x w => let ⟨ys, r, s, a⟩ := q i x w; ⟨ys, r, t _ _ _ _ d s, a⟩⟩
theorem At.mono {μ μ' : kl} {v : Value} {ys : List Value} (h : At μ v ys) (g : kd μ μ') : At μ' v ys := by
 obtain ⟨b, off, cs, T, fr, h1, a, d⟩ := h
 exact ⟨b, off, cs, T, fr, h1, g _ _ a, d⟩
theorem Sl.len {α : Type} {R : pE α} {k : Nat} {μ : kl} {v : Value} {l : List α} (h : Sl R k μ v l) : l.length ≤ 9223372036854775807 := by
 obtain ⟨A, c, h1, b, a, d⟩ := h
 unfold maxLen at a
 omega
theorem Sl.nil {α : Type} (R : pE α) (k : Nat) (μ : kl) : Sl R k μ (.slice none 0 0) [] := ⟨none, 0, rfl, aY _, by decide, fun h => absurd h (by simp)⟩
theorem Fr.mono {B B' : Nat} {v : Value} (h : Fr B v) (a : B' ≤ B) : Fr B' v := fun b d => dT a (h b d)
theorem Fr.nil (B : Nat) : Fr B (.slice none 0 0) := fun b a => by simp [Value.ownBlock] at a
end Go.Proofs.YtmlncblocfcmiaaGreat
namespace Go.Proofs.YtmlncblocfcmiaaGreat
open Go.RowKit
variable {dd : Bool}
section
variable {P : Program} {n : Nat} {Q : qF} {E : Nat → Value} {W : World} {ops : Array Oper} {rest : List Oper}
 {d : Option Nat} {ty : TypeId} {pos : String} {af : Array Edge} {g : Option (Nat × Bool)}
 {F : Nat → Prop} {w : World} {μ : kl} {L : List (Nat × Obj)}
def lQ (P : Program) (E : Nat → Value) (o : Oper) (W : World) (v : Value) (W' : World) : Prop := (execOp (jG E) o).run P W = .ok (.value v) W'
theorem Hk {o : Oper} {dd : Nat} {v : Value} (hw : sN n ops E o) (a : o.dst = some dd) (b : dd < n) (d : lQ P E o W v W) (h : LW P n ops Q rest (nQ E dd v) W) : LW P n ops Q (o :: rest) E W := L8 hw a b d h
theorem jE {x : Operand} {v : Value} (a : jG E x = v) : lQ P E ⟨d, .move x, ty, pos, af, g⟩ W v W := by rw [← a]; rfl
theorem nu {x : Operand} {v : Value} (a : jG E x = v) : lQ P E ⟨d, .assign x, ty, pos, af, g⟩ W v W := by rw [← a]; rfl
theorem jM {c x y : Operand} {v : Value} (a : jG E c = .bool true) (b : jG E x = v) : lQ P E ⟨d, .pick c x y, ty, pos, af, g⟩ W v W := by
 show (do pure (.value (if ← asBool (jG E c) then jG E x else jG E y)) : Sem Next).run P W = _
 rw [a, ← b]; simp [asBool]
theorem jN {c x y : Operand} {v : Value} (a : jG E c = .bool false) (b : jG E y = v) : lQ P E ⟨d, .pick c x y, ty, pos, af, g⟩ W v W := by
 show (do pure (.value (if ← asBool (jG E c) then jG E x else jG E y)) : Sem Next).run P W = _
 rw [a, ← b]; simp [asBool]
theorem Ek {x : Operand} {i : Nat} {vs : Array Value} {v : Value} (b : jG E x = .tuple vs) (a : vs[i]? = some v) : lQ P E ⟨d, .extract x i, ty, pos, af, g⟩ W v W := by
 show (do pure (.value (← Instr.extract (jG E x) i)) : Sem Next).run P W = _
 rw [b]; simp [Instr.extract, a]
theorem nH {u : TypeId} {x : Operand} {b : Bool} (a : jG E x = .bool b) : lQ P E ⟨d, .unOp .not u x, ty, pos, af, g⟩ W (.bool !b) W := by
 show (do pure (.value (← Op.unary .not (jG E x))) : Sem Next).run P W = _
 rw [a]; simp [Op.unary]
theorem Lv {fn : Fn} {first caps : Array Operand} {v : Value} (a : .func fn (first.map (jG E)) (caps.map (jG E)) = v) : lQ P E ⟨d, .makeFunc fn first caps, ty, pos, af, g⟩ W v W := by
 show (do pure (.value (← Instr.makeFunc fn (first.map (jG E)) (caps.map (jG E)))) : Sem Next).run P W = _
 rw [← a]; simp [Instr.makeFunc]
def Ii (k : IntKind) (op : BinOp) (a b : Int) : Option Value :=
 match op with
 | .eql => some (.bool (a == b))
 | .neq => some (.bool (a != b))
 | .lss => some (.bool (decide (a < b)))
 | .leq => some (.bool (decide (a ≤ b)))
 | .gtr => some (.bool (decide (a > b)))
 | .geq => some (.bool (decide (a ≥ b)))
 | .add => some (.int k (k.wrap (a + b)))
 | .sub => some (.int k (k.wrap (a - b)))
 | .mul => some (.int k (k.wrap (a * b)))
 | _ => none
theorem kx {op : BinOp} {h m : TypeId} {x y : Operand} {k : IntKind} {a b : Int} {v : Value} (j : jG E x = .int k a) (l : jG E y = .int k b) (i : Ii k op a b = some v) :
  lQ P E ⟨d, .binOp op h x y m, ty, pos, af, g⟩ W v W := by
 show (do let r ← (do eqGuard op h x y (jG E x) (jG E y); binOp op h (jG E x) (jG E y)); pure (.value r) : Sem Next).run P W = _
 rw [j, l]
 cases op <;> simp [Ii] at i <;> subst i <;> simp [eqGuard, binOp, Op.intCmp, Op.intArith]
def Oj (op : BinOp) (a b : ByteArray) : Option Value :=
 match op with
 | .eql => some (.bool (a.toList == b.toList))
 | .neq => some (.bool !(a.toList == b.toList))
 | .lss => some (.bool (Op.bytesLess a.toList b.toList))
 | .leq => some (.bool (Op.bytesLess a.toList b.toList || a.toList == b.toList))
 | .gtr => some (.bool !(Op.bytesLess a.toList b.toList || a.toList == b.toList))
 | .geq => some (.bool !(Op.bytesLess a.toList b.toList))
 | _ => none
def wo (a b : ByteArray) : Option ByteArray := if ((a.size + b.size : Nat) : Int) > IntKind.i64.max then none else some (a ++ b)
theorem qX {op : BinOp} {h l : TypeId} {x y : Operand} {a b : ByteArray} {v : Value} (j : jG E x = .string a) (k : jG E y = .string b) (i : Oj op a b = some v) :
  lQ P E ⟨d, .binOp op h x y l, ty, pos, af, g⟩ W v W := by
 show (do let r ← (do eqGuard op h x y (jG E x) (jG E y); binOp op h (jG E x) (jG E y)); pure (.value r) : Sem Next).run P W = _
 rw [j, k]
 cases op <;> simp [Oj] at i <;> subst i <;> simp [eqGuard, binOp, Op.stringOp]
theorem wX {i l : TypeId} {x y : Operand} {a b r : ByteArray} (j : jG E x = .string a) (k : jG E y = .string b) (h : wo a b = some r) :
  lQ P E ⟨d, .binOp .add i x y l, ty, pos, af, g⟩ W (.string r) W := by
 show (do let r ← (do eqGuard .add i x y (jG E x) (jG E y); binOp .add i (jG E x) (jG E y)); pure (.value r) : Sem Next).run P W = _
 rw [j, k]
 simp only [wo] at h
 split at h
 ·cases h
 ·rename_i hle; cases h; simp [eqGuard, binOp, Op.stringOp]; simpa using hle
theorem OM {op : BinOp} {h m : TypeId} {x y : Operand} {a b : Bool} (j : P.underlying h = some .bool) (k : jG E x = .bool a) (l : jG E y = .bool b) (i : op = .eql) :
  lQ P E ⟨d, .binOp op h x y m, ty, pos, af, g⟩ W (.bool (a == b)) W := by
 subst i
 show (do let r ← (do eqGuard .eql h x y (jG E x) (jG E y); binOp .eql h (jG E x) (jG E y)); pure (.value r) : Sem Next).run P W = _
 rw [k, l]
 simp [eqGuard, binOp, Op.equal, Op.maxDepth, run_equalIn_bool' W 9999 h a b j]
theorem uB {h m : TypeId} {x y : Operand} {a b : Array Value} {r : Bool} (k : jG E x = .agg a) (l : jG E y = .agg b) (i : ∀ W, (eqGuard .eql h x y (.agg a) (.agg b)).run P W = .ok () W) (j : ∀ W, (binOp .eql h (.agg a) (.agg b)).run P W = .ok (.bool r) W) : lQ P E ⟨d, .binOp .eql h x y m, ty, pos, af, g⟩ W (.bool r) W := by
 show (do let r ← (do eqGuard .eql h x y (jG E x) (jG E y); binOp .eql h (jG E x) (jG E y)); pure (.value r) : Sem Next).run P W = _
 rw [k, l]; simp [i W, j W]
theorem Gm {h m : TypeId} {x y : Operand} {a b : Array Value} {r : Bool} (k : jG E x = .agg a) (l : jG E y = .agg b) (i : ∀ W, (eqGuard .neq h x y (.agg a) (.agg b)).run P W = .ok () W) (j : ∀ W, (binOp .neq h (.agg a) (.agg b)).run P W = .ok (.bool r) W) : lQ P E ⟨d, .binOp .neq h x y m, ty, pos, af, g⟩ W (.bool r) W := by
 show (do let r ← (do eqGuard .neq h x y (jG E x) (jG E y); binOp .neq h (jG E x) (jG E y)); pure (.value r) : Sem Next).run P W = _
 rw [k, l]; simp [i W, j W]
theorem Br {t e : TypeId} (dd : Nat) (b : P.underlying t = some (.pointer e)) (a : Option Addr) (W : World) : (Op.equalIn (dd + 1) t (.pointer a) (.pointer none)).run P W = .ok a.isNone W := by
 cases a <;> simp [Op.equalIn, bJ b]
theorem wO {b l e : TypeId} {x y : Operand} {a : Option Addr} (i : P.underlying b = some (.pointer e)) (j : jG E x = .pointer a) (k : jG E y = .pointer none) :
  lQ P E ⟨d, .binOp .eql b x y l, ty, pos, af, g⟩ W (.bool a.isNone) W := by
 show (do let r ← (do eqGuard .eql b x y (jG E x) (jG E y); binOp .eql b (jG E x) (jG E y)); pure (.value r) : Sem Next).run P W = _
 rw [j, k]
 have h := Br 9999 i a W
 simp [eqGuard, binOp, Op.equal, show Op.maxDepth = 9999 + 1 from rfl, h]
theorem Cj {b l e : TypeId} {x y : Operand} {a : Option Addr} (i : P.underlying b = some (.pointer e)) (j : jG E x = .pointer a) (k : jG E y = .pointer none) :
  lQ P E ⟨d, .binOp .neq b x y l, ty, pos, af, g⟩ W (.bool !a.isNone) W := by
 show (do let r ← (do eqGuard .neq b x y (jG E x) (jG E y); binOp .neq b (jG E x) (jG E y)); pure (.value r) : Sem Next).run P W = _
 rw [j, k]
 have h := Br 9999 i a W
 simp [eqGuard, binOp, Op.equal, show Op.maxDepth = 9999 + 1 from rfl, h]
theorem oq {x : Operand} {t : TypeId} {s : ByteArray} (a : P.underlying t = some .string) (b : jG E x = .string s) : lQ P E ⟨d, .call ⟨.builtin .len, #[x], #[t]⟩, ty, pos, af, g⟩ W (.int .i64 s.size) W := by
 show (do let d ← resolve (jG E) ⟨.builtin .len, #[x], #[t]⟩ ty; invoke d.target d.args : Sem Next).run P W = _
 simp [resolve, invoke, builtin, Builtin.len_, bJ a, b, goInt]
theorem Aq {x : Operand} {t e : TypeId} {A : Option Addr} {l c : Nat} (a : P.underlying t = some (.slice e)) (b : jG E x = .slice A l c) : lQ P E ⟨d, .call ⟨.builtin .len, #[x], #[t]⟩, ty, pos, af, g⟩ W (.int .i64 l) W := by
 show (do let d ← resolve (jG E) ⟨.builtin .len, #[x], #[t]⟩ ty; invoke d.target d.args : Sem Next).run P W = _
 simp [resolve, invoke, builtin, Builtin.len_, bJ a, b, goInt]
theorem kK {α : Type} {R : pE α} {k : Nat} {m : kl} {x : Operand} {t e : TypeId} {v : Value} {l : List α} (b : P.underlying t = some (.slice e)) (h : jG E x = v) (a : Sl R k m v l) : lQ P E ⟨d, .call ⟨.builtin .len, #[x], #[t]⟩, ty, pos, af, g⟩ W (.int .i64 l.length) W := by
 obtain ⟨A, c, rfl, _⟩ := a
 exact Aq b h
theorem Al {t : TypeId} {x a : Operand} {m : IntKind} {s : ByteArray} {i : Int} {c : UInt8} (k : P.underlying t = some .string) (l : jG E x = .string s) (h : jG E a = .int m i) (b : 0 ≤ i) (j : s[i.toNat]? = some c) :
  lQ P E ⟨d, .index t x a, ty, pos, af, g⟩ W (.int .u8 c.toNat) W := by
 show (do pure (.value (← Instr.index t (jG E x) (jG E a))) : Sem Next).run P W = _
 rw [l, h]
 simp [Instr.index, asIntOf, bJ k, b, j]
def lI (P : Program) (t : TypeId) (f off : Nat) : Prop := ∀ b o w, (Instr.fieldAt t (.pointer (some ⟨b, o, none⟩)) f).run P w = .ok (.pointer (some ⟨b, o + off, none⟩)) w
theorem jC {t : TypeId} {x : Operand} {f off b o : Nat} (a : lI P t f off) (h : jG E x = .pointer (some ⟨b, o, none⟩)) : lQ P E ⟨d, .fieldAddr t x f, ty, pos, af, g⟩ W (.pointer (some ⟨b, o + off, none⟩)) W := by
 show (do pure (.value (← Instr.fieldAt t (jG E x) f)) : Sem Next).run P W = _
 rw [h]; simp [a b o W]
theorem Du {t : TypeId} {x : Operand} {f off : Nat} {v : Value} {ys : List Value} (zs : List Value) (k : lI P t f off) (n : jG E x = v) (m : At μ v ys) (p : (ys.drop off).take zs.length = zs) :
  ∃ h, At μ h zs ∧ ∀ W, lQ P E ⟨d, .fieldAddr t x f, ty, pos, af, g⟩ W h W := by
 obtain ⟨b, o, cs, T, fr, rfl, h1, i⟩ := m
 refine ⟨_, ⟨b, o + off, cs, T, fr, rfl, h1, fun j y a => ?_⟩, fun W => jC k n⟩
 have l : j < zs.length := (bK.1 a).1
 have := i (off + j) y (by
  rw [← p, dL l, dM] at a
  exact a)
 rw [ev]
 exact this
theorem mW {x : Operand} {a : Addr} (b : jG E x = .pointer (some a)) : lQ P E ⟨d, .nilCheck x, ty, pos, af, g⟩ W (.pointer (some a)) W := by
 unfold lQ execOp
 simp [b]
theorem Kc {α : Type} {R : pE α} {k : Nat} {t e : TypeId} {x h : Operand} {O : IntKind} {v : Value} {i : Int} {l : List α} {x0 : α} (J : P.underlying t = some (.slice e)) (he : ∀ w, (sizeOf e).run P w = .ok k w) (L : jG E x = v) (F : jG E h = .int O i) (I : Sl R k μ v l) (n : 0 ≤ i) (m : l[i.toNat]? = some x0) :
  ∃ p ys, ys.length = k ∧ R μ ys x0 ∧ At μ p ys ∧ ∀ W, lQ P E ⟨d, .indexAddr t x h, ty, pos, af, g⟩ W p W := by
 obtain ⟨A, c, rfl, Q, U, q⟩ := I
 have G : i.toNat < l.length := (bK.1 m).1
 obtain ⟨b, off, cs, T, fr, rfl, r, s⟩ := q (by omega)
 obtain ⟨ys, u, z, a⟩ := s i.toNat x0 m
 refine ⟨.pointer (some ⟨b, off + i.toNat * k, none⟩), ys, u, z, ⟨b, off + i.toNat * k, cs, T, fr, rfl, r, fun j y M => a j y M⟩, fun W => ?_⟩
 show (do pure (.value (← Instr.indexAt t (jG E x) (jG E h))) : Sem Next).run P W = _
 rw [L, F]
 have D : 0 ≤ i ∧ i < (l.length : Int) := ⟨n, by omega⟩
 simp [Instr.indexAt, asIntOf, bJ J, he W, D, dU]
theorem na {α : Type} {enc : α → List Value} {k : Nat} {t e : TypeId} {x a : Operand} {y : IntKind} {v : Value} {i : Int} {l : List α} {x0 : α} (s : P.underlying t = some (.slice e)) (he : ∀ w, (sizeOf e).run P w = .ok k w) (u : jG E x = v) (n : jG E a = .int y i) (r : Sl (Pl enc) k μ v l) (b : 0 ≤ i) (q : l[i.toNat]? = some x0) :
  ∃ p, At μ p (enc x0) ∧ ∀ W, lQ P E ⟨d, .indexAddr t x a, ty, pos, af, g⟩ W p W := by
 obtain ⟨p, ys, h1, h, j, m⟩ := Kc (d := d) (ty := ty) (pos := pos) (af := af) (g := g) s he u n r b q
 cases h
 exact ⟨p, j, m⟩
theorem HX (P : Program) {W : World} {b off : Nat} {cs : Array Value} {T : TypeId} {fr : Nat × Nat} (a : W.heap[b]? = some (.cells cs T fr)) (ys : List Value) (g : ∀ j y, ys[j]? = some y → cs[off + j]? = some y) :
  (loadCells ⟨b, off, none⟩ ys.length).run P W = .ok ys.toArray W :=
 iB W ⟨b, off, none⟩ ys (fun j v d => by rw [dU, gz W b (off + j) cs T fr a]; exact g j v d)
theorem BC {W : World} {t : TypeId} {b off : Nat} {cs : Array Value} {T : TypeId} {fr : Nat × Nat} (a : ∀ w, (isAgg t).run P w = .ok true w) (ys : List Value) (d : ∀ w, (sizeOf t).run P w = .ok ys.length w) (g : W.heap[b]? = some (.cells cs T fr)) (h : ∀ j y, ys[j]? = some y → cs[off + j]? = some y) : (Instr.loadAt t (.pointer (some ⟨b, off, none⟩))).run P W = .ok (.agg ys.toArray) W := by
 simp [Instr.loadAt, Instr.sureAddr, loadVar, a W, d W, HX P g ys h]
theorem BE {W : World} {t : TypeId} {b off : Nat} {cs : Array Value} {T : TypeId} {fr : Nat × Nat} (a : ∀ w, (isAgg t).run P w = .ok false w) {y : Value} (d : W.heap[b]? = some (.cells cs T fr)) (h : cs[off]? = some y) : (Instr.loadAt t (.pointer (some ⟨b, off, none⟩))).run P W = .ok y W := by
 have g : W.cell? ⟨b, off, none⟩ = some y := by rw [gz W b off cs T fr d]; exact h
 simp [Instr.loadAt, Instr.sureAddr, loadVar, a W, load, Sem.run, g]
theorem jw {t : TypeId} {x : Operand} {a v : Value} (h : jG E x = a) (b : (Instr.loadAt t a).run P W = .ok v W) : lQ P E ⟨d, .load t x, ty, pos, af, g⟩ W v W := by
 show (do pure (.value (← Instr.loadAt t (jG E x))) : Sem Next).run P W = _
 rw [h]; simp [b]
def ny (μ : kl) (A : List (Nat × Obj)) (W : World) : Prop := (∀ b o, μ b = some o → W.heap[b]? = some o) ∧ ∀ b o, (b, o) ∈ A → W.heap[b]? = some o
theorem ST.has (h : ST dd F w W μ L) : ny μ L W := ⟨h.mem, fun b o a => (h.box b o a).1⟩
theorem ny.sub {μ' : kl} {A A' : List (Nat × Obj)} (h : ny μ A W) (g : kd μ' μ) (d : ∀ p, p ∈ A' → p ∈ A) : ny μ' A' W := ⟨fun b o a => h.1 b o (g b o a), fun b o a => h.2 b o (d _ a)⟩
theorem jR {A : List (Nat × Obj)} (hH : ny μ A W) {t : TypeId} {p : Value} {ys : List Value} (hp : At μ p ys) (d : ∀ w, (isAgg t).run P w = .ok true w) (g : ∀ w, (sizeOf t).run P w = .ok ys.length w) :
  (Instr.loadAt t p).run P W = .ok (.agg ys.toArray) W := by
 obtain ⟨b, off, cs, T, fr, rfl, h1, a⟩ := hp
 exact BC d ys g (hH.1 _ _ h1) a
theorem sG {A : List (Nat × Obj)} (hH : ny μ A W) {t : TypeId} {p y : Value} (hp : At μ p [y]) (d : ∀ w, (isAgg t).run P w = .ok false w) :
  (Instr.loadAt t p).run P W = .ok y W := by
 obtain ⟨b, off, cs, T, fr, rfl, h1, a⟩ := hp
 exact BE d (hH.1 _ _ h1) (a 0 y rfl)
theorem jz {A : List (Nat × Obj)} (hH : ny μ A W) {t : TypeId} {b off : Nat} {cs : Array Value} {T : TypeId} {fr : Nat × Nat} (h : (b, Obj.cells cs T fr) ∈ A) (ys : List Value) (k : (cs.toList.drop off).take ys.length = ys) (g : ∀ w, (isAgg t).run P w = .ok true w) (i : ∀ w, (sizeOf t).run P w = .ok ys.length w) : (Instr.loadAt t (.pointer (some ⟨b, off, none⟩))).run P W = .ok (.agg ys.toArray) W :=
 BC g ys i (hH.2 _ _ h) (fun j y a => by
  have d : j < ys.length := (bK.1 a).1
  rw [← k, dL d, dM] at a
  simpa using a)
theorem jO {A : List (Nat × Obj)} (hH : ny μ A W) {t : TypeId} {b off : Nat} {cs : Array Value} {T : TypeId} {fr : Nat × Nat} (d : (b, Obj.cells cs T fr) ∈ A) {y : Value} (g : cs[off]? = some y) (a : ∀ w, (isAgg t).run P w = .ok false w) : (Instr.loadAt t (.pointer (some ⟨b, off, none⟩))).run P W = .ok y W :=
 BE a (hH.2 _ _ d) g
theorem kZ {t : TypeId} {a : Array (Nat × Operand)} {b : Array (Nat × Value)} {v : Value} (h : a.map (fun (i, x) => (i, jG E x)) = b) (j : ∀ W, (Instr.build t b).run P W = .ok v W) : lQ P E ⟨d, .build t a, ty, pos, af, g⟩ W v W := by
 show (do pure (.value (← Instr.build t (a.map fun (i, x) => (i, jG E x)))) : Sem Next).run P W = _
 rw [h]; simp [j W]
theorem kE {t : TypeId} {z cs : Array Value} {fs : Array Field} {a : Array (Nat × Value)} {pl : Array (Nat × Nat)} (g : ∀ w, (zeroValue t).run P w = .ok (.agg z) w) (d : P.underlying t = some (.struct fs)) (hp : ∀ w, (fs.mapM fun f => do pure (f.offset, ← sizeOf f.type) : Sem (Array (Nat × Nat))).run P w = .ok pl w) (b : Instr.fill (pl[·]?) z a.toList = some cs) (W : World) : (Instr.build t a).run P W = .ok (.agg cs) W := by
 simp only [Instr.build, cF, g W, bT, bJ d, Value.cells]
 rw [hp W]
 simp only [bT, b, dC]
end
theorem D3 {α : Type} : ∀ (a : Ask α) (w : World), w.drawn ≤ (w.ask a).2.drawn
 | .done a, w => by simp [World.ask]
 | .ask b range k, w => by
  unfold World.ask
  dsimp only
  split
  ·exact D3 (k 0) w
  ·refine dT (iG w.drawn) ?_
   exact D3 _ { w with drawn := w.drawn + 1 }
theorem Mj (w : World) (c : Sys) : w.drawn ≤ (w.sys c).2.drawn := by
 have h := D3 (Kernel.perform c w.os) w
 unfold World.sys
 generalize w.ask (Kernel.perform c w.os) = r at *
 obtain ⟨⟨a, b⟩, d⟩ := r
 cases a <;> simp at h ⊢ <;> exact h
theorem F8 {p : Program} {w d : World} {a : Addr} {u : TypeId} {k : Addr} {v : Value} {b : Bool} {l : List Addr} (h : w.viewStore p a u k v b = .ok (d, l)) : d.drawn = w.drawn := by
 unfold World.viewStore at h
 simp only [bind, Except.bind, pure, Except.pure] at h
 split at h
 ·cases h
 ·split at h
  ·cases h
  ·split at h
   ·split at h
    ·cases h
    ·split at h
     ·cases h
     ·cases h; rfl
   ·cases h
theorem Hj {p : Program} {w d : World} {a : Addr} {v : Value} {b : Bool} {l : List Addr} (h : w.farStore p a v b = .ok (d, l)) : d.drawn = w.drawn := by
 unfold World.farStore at h
 split at h
 ·split at h
  ·rename_i h1; cases h; exact F8 h1
  ·cases h
 ·cases h
theorem oF {α : Type} {p : Program} : ∀ (s : Sem α) (w d : World) (a : α), s.run p w = .ok a d → w.drawn ≤ d.drawn
 | .pure a, w, d, b, h => by simp only [Sem.run] at h; cases h; exact aY _
 | .load m a k, w, d, b, h => by
  simp only [Sem.run] at h
  split at h
  ·exact oF _ _ _ _ h
  ·split at h
   ·exact oF _ _ _ _ h
   ·cases h
 | .store m a v k, w, d, b, h => by
  have key : ∀ (r : Result α) i, r = .ok b d → (r = (match w.cell? a with
    | some _ => if w.frozen? a then .halt i w else k.run p (w.setCell a v)
    | none => match w.farStore p a v (m == .atomic) with
     | .ok (w, _) => k.run p w
     | .error h => .halt h w)) → w.drawn ≤ d.drawn := by
   intro r i j h
   rw [j] at h
   split at h
   ·split at h
    ·cases h
    ·have := oF k _ _ _ h.symm
     simpa [World.setCell] using this
   ·split at h
    ·rename_i h1
     have g := oF k _ _ _ h.symm
     rw [Hj h1] at g
     exact g
    ·cases h
  cases v with
  | agg cs => simp only [Sem.run] at h; cases h
  | tuple cs => simp only [Sem.run] at h; cases h
  | _ => exact key _ _ h (by simp only [Sem.run]; rfl)
 | .new o k, w, d, b, h => by simp only [Sem.run] at h; have := oF (k _) _ _ _ h; exact this
 | .shape r k, w, d, b, h => by simp only [Sem.run] at h; exact oF _ _ _ _ h
 | .freeze a n k, w, d, b, h => by
  simp only [Sem.run] at h
  have := oF k _ _ _ h
  unfold World.freeze at this
  split at this <;> exact this
 | .frozen a k, w, d, b, h => by simp only [Sem.run] at h; exact oF _ _ _ _ h
 | .getObj r k, w, d, b, h => by
  simp only [Sem.run] at h
  split at h <;> try (cases h; done)
  exact oF _ _ _ _ h
 | .setObj r o k, w, d, b, h => by
  simp only [Sem.run] at h
  split at h <;> try (cases h; done)
  have := oF k _ _ _ h
  exact this
 | .choose q k, w, d, b, h => by
  simp only [Sem.run] at h
  split at h
  ·exact oF _ _ _ _ h
  ·exact dT (iG _) (oF _ _ _ _ h)
 | .sys c k, w, d, b, h => by
  simp only [Sem.run] at h
  exact dT (Mj w c) (oF _ _ _ _ h)
 | .program k, w, d, b, h => by simp only [Sem.run] at h; exact oF _ _ _ _ h
 | .mark m k, w, d, b, h => by simp only [Sem.run] at h; exact oF k _ _ _ h
 | .halt x, w, d, b, h => by simp only [Sem.run] at h; cases h
end Go.Proofs.YtmlncblocfcmiaaGreat
namespace Go.Proofs.YtmlncblocfcmiaaGreat
open Go.RowKit
variable {dd : Bool}
section
variable {P : Program} {n : Nat} {Q : qF} {E : Nat → Value} {W : World} {ops : Array Oper} {rest : List Oper}
 {d : Option Nat} {ty : TypeId} {pos : String} {af : Array Edge} {g : Option (Nat × Bool)}
 {F : Nat → Prop} {w : World} {μ : kl} {L : List (Nat × Obj)}
def nn (P : Program) (E : Nat → Value) (o : Oper) (W : World) (K : Value → World → Prop) : Prop :=
 (∃ v W', (execOp (jG E) o).run P W = .ok (.value v) W' ∧ K v W') ∨ (∃ W', (execOp (jG E) o).run P W = .ok .skip W' ∧ K undef W') ∨
 (∃ f args, (execOp (jG E) o).run P W = .ok (.enter f args) W ∧ Calls P f args W fun e a => ∃ v, e = .returned v ∧ K v a)
theorem nn.mono {o : Oper} {K K' : Value → World → Prop} (h : nn P E o W K) (hk : ∀ v W', K v W' → K' v W') : nn P E o W K' := by
 rcases h with ⟨v, W', h1, a⟩ | ⟨W', h1, a⟩ | ⟨f, args, h1, a⟩
 ·exact .inl ⟨v, W', h1, hk _ _ a⟩
 ·exact .inr (.inl ⟨W', h1, hk _ _ a⟩)
 ·exact .inr (.inr ⟨f, args, h1, dV a (fun _ _ ⟨v, b, d⟩ => ⟨v, b, hk _ _ d⟩)⟩)
theorem Qk {o : Oper} {dd : Nat} (hw : sN n ops E o) (d : o.dst = some dd) (g : dd < n) (h : nn P E o W fun v W' => LW P n ops Q rest (nQ E dd v) W') : LW P n ops Q (o :: rest) E W := by
 rcases h with ⟨v, W', h1, b⟩ | ⟨W', h1, b⟩ | ⟨f, args, h1, b⟩
 ·exact L8 hw d g h1 b
 ·intro a ha
  unfold wpList
  rw [bD (hw.of ha)]
  refine .inl ?_
  unfold Oper.wp
  rw [ha.eval, h1, gD, d]
  exact b _ (ha.put g _)
 ·exact M3 hw d g h1 b
theorem Q1 {o : Oper} (hw : sN n ops E o) (d : o.dst = none) (h : nn P E o W fun _ W' => LW P n ops Q rest E W') : LW P n ops Q (o :: rest) E W := by
 rcases h with ⟨v, W', h1, b⟩ | ⟨W', h1, b⟩ | ⟨f, args, h1, b⟩
 ·intro a ha
  unfold wpList
  rw [bD (hw.of ha)]
  refine .inl ?_
  unfold Oper.wp
  rw [ha.eval, h1, gr, d]
  exact b _ (ha.yY _)
 ·exact NV hw d h1 b
 ·intro a ha
  unfold wpList
  rw [bD (hw.of ha)]
  refine .inl ?_
  unfold Oper.wp
  rw [ha.eval, h1, gu]
  refine dV b ?_
  rintro e i ⟨v, rfl, g⟩
  simp only [d]
  exact g _ (ha.yY _)
theorem km {K : Value → World → Prop} {t : TypeId} {x : Operand} {v : Value} (a : ST dd F w W μ L) (i : jG E x = v) (h : ∀ W' b, ST dd F w W' μ ((b, .cells v.cells t (0, 0)) :: L) → K (.pointer (some ⟨b, 0, none⟩)) W') : nn P E ⟨d, .box t x, ty, pos, af, g⟩ W K :=
 .inl ⟨.pointer (some ⟨W.heap.size, 0, none⟩), W.alloc (.cells v.cells t (0, 0)), by
   show (do pure (.value (← Instr.box t (jG E x))) : Sem Next).run P W = _
   rw [i]
   simp [Instr.box, newVar, newRow, newObj, Sem.run], h _ _ (a.alloc _)⟩
theorem kf {K : Value → World → Prop} {t : TypeId} {z : Value} (a : ST dd F w W μ L) (i : ∀ w, (zeroValue t).run P w = .ok z w) (h : ∀ W' b, ST dd F w W' μ ((b, .cells z.cells t (0, 0)) :: L) → K (.pointer (some ⟨b, 0, none⟩)) W') : nn P E ⟨d, .alloc t, ty, pos, af, g⟩ W K :=
 .inl ⟨.pointer (some ⟨W.heap.size, 0, none⟩), W.alloc (.cells z.cells t (0, 0)), by
   show (do pure (.value (← Instr.alloc t true (.tuple #[]))) : Sem Next).run P W = _
   simp [Instr.alloc, i W, newVar, newRow, newObj, Sem.run], h _ _ (a.alloc _)⟩
theorem Ha {t e : TypeId} {m k : Nat} {z : Value} {d : Array (Nat × Value)} {cs : Array Value} (h : P.underlying t = some (.slice e)) (g : ∀ w, (sizeOf e).run P w = .ok k w) (j : ∀ w, (zeroValue e).run P w = .ok z w) (hm : m * k ≤ 16777216) (a : Instr.fill (fun i => some (i * k, k)) ((Array.range (m * k)).map (fun i => (if m * k = 0 then (#[] : Array Value) else z.cells)[i % (if m * k = 0 then (#[] : Array Value) else z.cells).size]!)) d.toList = some cs) (W : World) :
  (Instr.buildSlice t m d).run P W = .ok (.slice (some ⟨W.heap.size, 0, none⟩) m m) (W.alloc (.cells cs e (0, 0))) := by
 simp only [Instr.buildSlice, cF, bJ h, bT, g W]
 rw [bI (by omega)]
 by_cases b : m * k = 0
 ·simp only [b, aT] at a ⊢
  simp only [cF, dC, bT, a]
  simp [newRow, newObj, Sem.run]
 ·simp only [b, aK] at a ⊢
  simp only [cF, j W, dC, bT, a]
  simp [newRow, newObj, Sem.run]
theorem jX {K : Value → World → Prop} {t e : TypeId} {m : Nat} {j : Array (Nat × Operand)} {k : Array (Nat × Value)} {cs : Array Value} (a : ST dd F w W μ L) (l : j.map (fun (i, x) => (i, jG E x)) = k) (n : ∀ W, (Instr.buildSlice t m k).run P W = .ok (.slice (some ⟨W.heap.size, 0, none⟩) m m) (W.alloc (.cells cs e (0, 0)))) (h : ∀ W' b, ST dd F w W' μ ((b, .cells cs e (0, 0)) :: L) → K (.slice (some ⟨b, 0, none⟩) m m) W') : nn P E ⟨d, .buildSlice t m j, ty, pos, af, g⟩ W K :=
 .inl ⟨.slice (some ⟨W.heap.size, 0, none⟩) m m, W.alloc (.cells cs e (0, 0)), by
   show (do pure (.value (← Instr.buildSlice t m (j.map fun (i, x) => (i, jG E x)))) : Sem Next).run P W = _
   rw [l]
   simp [n W], h _ _ (a.alloc _)⟩
theorem ST.store {A B : List (Nat × Obj)} {b : Nat} {cs : Array Value} {t : TypeId} (d : ST dd F w W μ (A ++ (b, .cells cs t (0, 0)) :: B)) (a : Array Value) :
  ST dd F w (W.setRow b a) μ (A ++ (b, .cells a t (0, 0)) :: B) := by
 have g := (d.box b _ (by simp : (b, Obj.cells cs t (0, 0)) ∈ A ++ (b, .cells cs t (0, 0)) :: B)).1
 refine d.put ⟨rfl, rfl, rfl, aY _, by simp [World.setRow]⟩ (fun k hk => ?_) (setRow_heap W b cs a t (0, 0) g)
 simp only [World.setRow, ey]
 rw [bI (fun e => hk e.symm)]
theorem yZ (P : Program) {W : World} {t : TypeId} {b off : Nat} {cs : Array Value} {T : TypeId} (v : Value) (a : ∀ w, (sizeOf t).run P w = .ok v.cells.size w) (h1 : ∀ u ∈ v.cells.toList, u.oneCell' = true) (d : W.heap[b]? = some (.cells cs T (0, 0))) (g : off + v.cells.size ≤ cs.size) : (Instr.storeAt t (.pointer (some ⟨b, off, none⟩)) v).run P W = .ok () (W.setRow b (cs.toList.take off ++ v.cells.toList ++ cs.toList.drop (off + v.cells.size)).toArray) := by
 have := iH (P := P) b off T v.cells.toList 0 cs W d (by simpa using g) h1
 simp [Instr.storeAt, Instr.sureAddr, storeVar, a W]
 simpa using this
theorem Pd {K : Value → World → Prop} (A : List (Nat × Obj)) {B : List (Nat × Obj)} {t : TypeId} {x y : Operand} (v : Value) {b off : Nat} {cs : Array Value} {T : TypeId} (a : Array Value) (i : ST dd F w W μ (A ++ (b, .cells cs T (0, 0)) :: B)) (n : jG E x = .pointer (some ⟨b, off, none⟩)) (p : jG E y = v) (j : ∀ w, (sizeOf t).run P w = .ok v.cells.size w) (h1 : ∀ u ∈ v.cells.toList, u.oneCell' = true) (m : off + v.cells.size ≤ cs.size) (l : (cs.toList.take off ++ v.cells.toList ++ cs.toList.drop (off + v.cells.size)).toArray = a) (h : ∀ W', ST dd F w W' μ (A ++ (b, .cells a T (0, 0)) :: B) → K undef W') : nn P E ⟨d, .store t x y, ty, pos, af, g⟩ W K :=
 .inr (.inl ⟨W.setRow b a, by
   show (do Instr.storeAt t (jG E x) (jG E y); pure .skip : Sem Next).run P W = _
   have k := (i.box b _ (by simp : (b, Obj.cells cs T (0, 0)) ∈ A ++ (b, .cells cs T (0, 0)) :: B)).1
   rw [n, p]
   simp only [cF, yZ P v j h1 k m, l, bT, dC], h _ (i.store a)⟩)
def jS (dd : Bool) (P : Program) (f : FuncId) (args : List Value) (w : World) (v : Value) : Prop := Calls P f args.toArray w fun e a => e = .returned v ∧ Ex dd w a
theorem LL {f : FuncId} {fv : Operand} {ax : Array Operand} {ats : Array TypeId} {caps args : Array Value} (a : jG E fv = .func (.func f) #[] caps) (he : ∀ args w, (callFunc f args).run P w = .ok (.enter f args) w) (ha : ax.map (jG E) ++ caps = args) :
  (execOp (jG E) ⟨d, .call ⟨.value fv, ax, ats⟩, ty, pos, af, g⟩).run P W = .ok (.enter f args) W := by
 show (do let d ← resolve (jG E) ⟨.value fv, ax, ats⟩ ty; invoke d.target d.args : Sem Next).run P W = _
 rw [← ha]
 simp only [resolve, a, Deferred.ofValue, cF, dC, bT, invoke]
 simp [he]
theorem Ez {K : Value → World → Prop} {f : FuncId} {fv : Operand} {ax : Array Operand} {ats : Array TypeId} {caps args : Array Value} (a : jG E fv = .func (.func f) #[] caps) (he : ∀ args w, (callFunc f args).run P w = .ok (.enter f args) w) (ha : ax.map (jG E) ++ caps = args) (h : Calls P f args W fun e b => ∃ v, e = .returned v ∧ K v b) : nn P E ⟨d, .call ⟨.value fv, ax, ats⟩, ty, pos, af, g⟩ W K :=
 .inr (.inr ⟨f, args, LL a he ha, h⟩)
theorem ED {K : Value → World → Prop} {f : FuncId} {fv : Operand} {ax : Array Operand} {ats : Array TypeId} {args : List Value} {v : Value} (a : ST dd F w W μ L) (j : jG E fv = .func (.func f) #[] #[]) (he : ∀ args w, (callFunc f args).run P w = .ok (.enter f args) w) (ha : (ax.map (jG E) ++ (#[] : Array Value)) = args.toArray) (i : jS dd P f args W v) (h : ∀ W', ST dd F w W' μ L → K v W') : nn P E ⟨d, .call ⟨.value fv, ax, ats⟩, ty, pos, af, g⟩ W K :=
 Ez j he ha (dV i (fun _ _ ⟨h1, b⟩ => ⟨v, h1, h _ (a.Ic b)⟩))
def jT {α : Type} (e : TypeId) (enc : α → List Value) (k : Nat) (v : Value) (l : List α) (R : List (Nat × Obj)) : Prop :=
 (v = .slice none 0 0 ∧ l = [] ∧ R = []) ∨
 ∃ g cap cur, v = .slice (some ⟨g, 0, none⟩) l.length cap ∧ R = [(g, .cells cur e (0, 0))] ∧ l.length ≤ cap ∧ cap ≤ maxLen ∧ cur.size = cap * k ∧ cur.toList.take (l.length * k) = (l.map enc).flatten
theorem pL {α : Type} {enc : α → List Value} {k : Nat} (hk : ∀ x, (enc x).length = k) : ∀ l : List α, (l.map enc).flatten.length = l.length * k
 | [] => by simp
 | x :: l => by simp [pL hk l, hk x, cR, Nat.add_comm]
theorem wE {α : Type} {enc : α → List Value} {k : Nat} (hk : ∀ x, (enc x).length = k) : ∀ (l : List α) (i : Nat) (x : α), l[i]? = some x → ∀ j y, (enc x)[j]? = some y → (l.map enc).flatten[i * k + j]? = some y
 | [], i, x, h => by cases h
 | z :: l, 0, x, h => by
  simp at h; subst h
  intro j y a
  have b : j < (enc z).length := (bK.1 a).1
  simp [ga, b]
  rw [cN b] at a
  simpa using a
 | z :: l, i + 1, x, h => by
  intro j y a
  have := wE hk l i x (by simpa using h) j y a
  simp only [bP, bQ]
  rw [fk (by rw [hk z]; have := Nat.le_mul_of_pos_left k (Nat.succ_pos i); simp [cR] at *; omega), hk z]
  rw [show (i + 1) * k + j - k = i * k + j by rw [cR]; omega]
  exact this
theorem Fm {α : Type} {enc : α → List Value} {k : Nat} (hk : ∀ x, (enc x).length = k) : ∀ (l : List α) (q : Nat) (y : Value), (l.map enc).flatten[q]? = some y → ∃ i x j, l[i]? = some x ∧ (enc x)[j]? = some y ∧ q = i * k + j
 | [], q, y, h => by simp at h
 | z :: l, q, y, h => by
  simp only [bP, bQ] at h
  by_cases b : q < k
  ·rw [gl (by rw [hk]; exact b)] at h
   exact ⟨0, z, q, rfl, h, by simp⟩
  ·rw [fk (by rw [hk]; omega), hk] at h
   obtain ⟨i, x, j, h1, a, d⟩ := Fm hk l (q - k) y h
   exact ⟨i + 1, x, j, by simpa using h1, a, by rw [cR]; omega⟩
theorem jT.nil {α : Type} (e : TypeId) (enc : α → List Value) (k : Nat) : jT e enc k (.slice none 0 0) [] [] := .inl ⟨rfl, rfl, rfl⟩
theorem jT.sl {α : Type} {e : TypeId} {enc : α → List Value} {k : Nat} {v : Value} {l : List α} {R : List (Nat × Obj)} {m : kl} (h : jT e enc k v l R) (hk : ∀ x, (enc x).length = k) (hm : ∀ b o, (b, o) ∈ R → m b = some o) : Sl (Pl enc) k m v l := by
 rcases h with ⟨rfl, rfl, rfl⟩ | ⟨g, cap, cur, rfl, rfl, h1, d, r, n⟩
 ·exact Sl.nil _ _ _
 ·refine ⟨_, cap, rfl, h1, d, fun _ => ⟨g, 0, cur, e, (0, 0), rfl, hm _ _ (by simp), fun i x p => ⟨enc x, hk x, rfl, fun j y q => ?_⟩⟩⟩
  have := wE hk l i x p j y q
  rw [← n] at this
  have a : i * k + j < l.length * k := by
   have := (bK.1 this).1
   simp at this; omega
  rw [dL a] at this
  simpa using this
theorem jT.len {α : Type} {e : TypeId} {enc : α → List Value} {k : Nat} {v : Value} {l : List α} {R : List (Nat × Obj)} (h : jT e enc k v l R) : l.length ≤ 9223372036854775807 := by
 rcases h with ⟨rfl, rfl, rfl⟩ | ⟨g, cap, cur, rfl, rfl, h1, a, b, d⟩
 ·simp
 ·unfold maxLen at a; omega
theorem jT.fr {α : Type} {e : TypeId} {enc : α → List Value} {k : Nat} {v : Value} {l : List α} {R X Y : List (Nat × Obj)} (h : jT e enc k v l R) (a : ST dd ku w W μ (X ++ (R ++ Y))) : Fr w.heap.size v := by
 rcases h with ⟨rfl, rfl, rfl⟩ | ⟨g, cap, cur, rfl, rfl, h1, i, j, m⟩
 ·exact Fr.nil _
 ·intro b d
  simp [Value.ownBlock] at d
  subst d
  rcases (a.box g _ (by simp; exact .inr (.inl rfl))).2.2 with h | h
  ·exact h
  ·exact h.elim
theorem jT.lit {α : Type} {e : TypeId} {enc : α → List Value} {k b m : Nat} {l : List α} {cs : Array Value} (hm : l.length = m) (d : m ≤ maxLen) (g : cs.toList = (l.map enc).flatten) (a : cs.size = m * k) : jT e enc k (.slice (some ⟨b, 0, none⟩) m m) l [(b, .cells cs e (0, 0))] := by
 subst hm
 refine .inr ⟨b, _, cs, rfl, rfl, aY _, d, a, ?_⟩
 rw [← g, ← a]
 exact dW (by rw [dO]; exact aY _)
def mu {α : Type} (a : Nat) (l m : List α) : Option (List α) := if (l.length + m.length) * a ≤ 140737488355328 ∧ l.length + m.length ≤ maxLen then some (l ++ m) else none
theorem Jf {K : Value → World → Prop} {α : Type} {e t : TypeId} {enc : α → List Value} {k aa : Nat} {z v vs : Value} {l m r : List α} {R : List (Nat × Obj)} (X : List (Nat × Obj)) {Y : List (Nat × Obj)} {x y : Operand} {i : TypeInfo} (p : ST dd F w W μ (X ++ (R ++ Y))) (hk : ∀ x, (enc x).length = k) (b1 : 0 < k) (h1 : ∀ x, ∀ u ∈ enc x, u.oneCell' = true) (ht : P.underlying t = some (.slice e)) (hi : P.info? e = some i) (hz : i.zero = some z) (b5 : z.cells.size = k) (b2 : i.size = k) (aE : i.bytes = aa) (hx : jG E x = v) (hy : jG E y = vs) (hR : jT e enc k v l R) (hs : Sl (Pl enc) k (hp W) vs m) (n : mu aa l m = some r) (h : ∀ W' v' R', ST dd F w W' μ (X ++ (R' ++ Y)) → jT e enc k v' r R' → K v' W') : nn P E ⟨d, .call ⟨.builtin .append, #[x, y], #[t, t]⟩, ty, pos, af, g⟩ W K := by
 unfold mu at n
 split at n
 case isFalse => cases n
 rename_i ai
 cases n
 have a8 : ∀ (V : Value) (W' : World), (Builtin.append_ #[t, t] ty #[v, vs]).run P W = .ok V W' → (execOp (jG E) ⟨d, .call ⟨.builtin .append, #[x, y], #[t, t]⟩, ty, pos, af, g⟩).run P W = .ok (.value V) W' := by
  intro V W' hV
  show (do let d ← resolve (jG E) ⟨.builtin .append, #[x, y], #[t, t]⟩ ty; invoke d.target d.args : Sem Next).run P W = _
  simp [resolve, invoke, builtin, hx, hy, hV]
 obtain ⟨A, c, rfl, b9, ba, b0⟩ := hs
 have a7 : W.ownsRow 0 e k v l.length (l.map enc).flatten := by
  refine ⟨pL hk l, ?_⟩
  rcases hR with ⟨rfl, rfl, rfl⟩ | ⟨g, cap, cur, rfl, rfl, h1, h2, h3, h4⟩
  ·exact .inl ⟨rfl, rfl⟩
  ·exact .inr ⟨g, cap, cur, rfl, eX _, (p.box g _ (by simp)).1, h1, h2, h3, h4⟩
 have ar : m.length = 0 ∨ ∃ ad, A = some ad ∧ ∀ j u, (m.map enc).flatten[j]? = some u → W.cell? (ad.add j) = some u := by
  rcases eU m.length with L | L
  ·exact .inl L
  ·obtain ⟨b, off, cs, T, fr, rfl, h6, h7⟩ := b0 L
   refine .inr ⟨⟨b, off, none⟩, rfl, fun j u hu => ?_⟩
   obtain ⟨i, x, q, h8, h9, rfl⟩ := Fm hk m j u hu
   obtain ⟨ys, _, av, aw⟩ := h7 i x h8
   cases av
   rw [dU, gz W b (off + (i * k + q)) cs T fr h6, ← ev]
   exact aw q u h9
 have aq : ∀ u ∈ (m.map enc).flatten, u.oneCell' = true := by
  intro u hu
  obtain ⟨ys, b4, b3⟩ := iS.1 hu
  obtain ⟨x, _, rfl⟩ := bL.1 b4
  exact h1 x u b3
 by_cases an : m.length = 0
 ·have hm : m = [] := aU an
  subst hm
  have hr : (Builtin.append_ #[t, t] ty #[v, .slice A 0 c]).run P W = .ok v W := by
   rcases a7.2 with ⟨rfl, L⟩ | ⟨g, cap, cur, rfl, _, hg, ao, _, bb, _⟩
   ·cases A with
    | none => simp [Builtin.append_, bJ ht, sizeOf, typeInfo, hi, Builtin.lenOf, Builtin.firstCells]
    | some ad => simp [Builtin.append_, bJ ht, sizeOf, typeInfo, hi, Builtin.lenOf, Builtin.firstCells, loadCells, loadCellsFrom]
   ·cases A with
    | none => simp [Builtin.append_, bJ ht, sizeOf, typeInfo, hi, Builtin.lenOf, Builtin.firstCells, ao, storeCells]
    | some ad => simp [Builtin.append_, bJ ht, sizeOf, typeInfo, hi, Builtin.lenOf, Builtin.firstCells, loadCells, loadCellsFrom, ao, storeCells]
  exact .inl ⟨v, W, a8 _ _ (by simpa using hr), by simpa using h W v R p (by simpa using hR)⟩
 rcases ar with L | ⟨ad, rfl, Z⟩
 ·exact absurd L an
 obtain ⟨v', W', hr, ag, s, b7, J⟩ := run_append_own_at (P := P) W 0 t ty e i z k aa ht hi hz b2 aE b5 b1 v l.length (l.map enc).flatten a7 ad m.length c (m.map enc).flatten (pL hk m) Z aq ai.2 ai.1 (eX _)
 have ab := oF _ _ _ _ hr
 refine .inl ⟨v', W', a8 _ _ hr, ?_⟩
 have hlen : (l ++ m).length = l.length + m.length := by simp
 rcases ag.2 with ⟨_, L⟩ | ⟨O, a1, a6, rfl, _, ae, b6, aj, ak, au⟩
 ·omega
 have ah : jT e enc k (.slice (some ⟨O, 0, none⟩) (l.length + m.length) a1) (l ++ m) [(O, .cells a6 e (0, 0))] :=
  .inr ⟨O, a1, a6, by rw [hlen], rfl, by omega, aj, ak, by rw [hlen, au]; simp⟩
 refine h W' _ _ ?_ ah
 have ap := p.nd
 rcases hR with ⟨rfl, rfl, rfl⟩ | ⟨g, cap, cur, rfl, rfl, q1, q2, q3, q4⟩
 ·-- nil: a new block
  have Q : W.heap.size ≤ O := by
   rcases J with h | h <;> simp [Value.ownBlock] at h
   omega
  have hex : Ex dd W W' := ⟨s.os, s.tape, s.output, tR.of ab, s.size, fun b n => s.block b n (by simp [Value.ownBlock])⟩
  have h1 := p.Ic hex
  refine ⟨h1.os, h1.tape, h1.output, h1.drawn, h1.size, h1.mo, h1.mem, fun b o n => ?_, ?_⟩
  ·simp only [aV, bX] at n
   rcases n with n | n | n
   ·exact h1.box b o (by simp [n])
   ·cases n
    refine ⟨ae, ?_, .inl (dT p.size Q)⟩
    cases hm : μ O with
    | none => rfl
    | some x => have := p.Et hm; omega
   ·exact h1.box b o (by simp [n])
  ·simp only [aZ, cL, bP, gO] at ap ⊢
   refine (ij fH).2 (dY.2 ⟨fun hm => ?_, ap⟩)
   rw [← cL] at hm
   obtain ⟨⟨b, o⟩, n, I⟩ := bL.1 hm
   have az : (b, o) ∈ X ++ ([] ++ Y) := by simpa using n
   have := p.Gn az
   simp at I
   omega
 ·by_cases al : O = g
  ·subst al
   have L : ST dd F w W μ (X ++ (O, Obj.cells cur e (0, 0)) :: Y) := by simpa using p
   have hold : ∀ b, b < W.heap.size → b ≠ O → W'.heap[b]? = W.heap[b]? := fun b n G => s.block b n (by simp [Value.ownBlock]; exact G)
   have D := L.nd
   simp only [cL, bP] at D
   have G : ∀ b o, (b, o) ∈ X ++ Y → b ≠ O := fun b o n I => by
    subst I
    rcases aV.1 n with n | n
    ·exact (bY.1 D).2.2 b (bL.2 ⟨_, n, rfl⟩) b (by simp) rfl
    ·exact (dY.1 (bY.1 D).2.1).1 (bL.2 ⟨_, n, rfl⟩)
   have M := L.box O (Obj.cells cur e (0, 0)) (by simp)
   refine ⟨s.os.trans p.os, s.tape.trans p.tape, s.output.trans p.output, tR.trans p.drawn (tR.of ab), dT p.size s.size, fun b n hF => ?_, fun b o n => ?_, fun b o n => ?_, by simpa using D⟩
   ·rw [hold b (eF n p.size) (fun I => by subst I; rcases M.2.2 with h | h; omega; exact hF h)]
    exact p.mo b n hF
   ·rw [hold b (p.Et n) (fun I => by subst I; rw [M.2.1] at n; cases n)]
    exact p.mem b o n
   ·simp only [aV, bX] at n
    rcases n with n | n | n
    ·obtain ⟨U, r2⟩ := p.box b o (by simp [n])
     exact ⟨by rw [hold b (nS U) (G b o (by simp [n]))]; exact U, r2⟩
    ·cases n; exact ⟨ae, M.2⟩
    ·obtain ⟨U, r2⟩ := p.box b o (by simp [n])
     exact ⟨by rw [hold b (nS U) (G b o (by simp [n]))]; exact U, r2⟩
  ·have Q : W.heap.size ≤ O := by
    rcases J with h | h <;> simp [Value.ownBlock] at h
    ·exact absurd h al
    ·omega
   have L : ST dd F w W μ (X ++ (g, Obj.cells cur e (0, 0)) :: Y) := by simpa using p
   have M := L.box g (Obj.cells cur e (0, 0)) (by simp)
   have D := L.nd
   simp only [cL, bP] at D
   have G : ∀ b o, (b, o) ∈ X ++ Y → b ≠ g := fun b o n I => by
    subst I
    rcases aV.1 n with n | n
    ·exact (bY.1 D).2.2 b (bL.2 ⟨_, n, rfl⟩) b (by simp) rfl
    ·exact (dY.1 (bY.1 D).2.1).1 (bL.2 ⟨_, n, rfl⟩)
   have hold : ∀ b, b < W.heap.size → b ≠ g → W'.heap[b]? = W.heap[b]? := fun b n G => s.block b n (by simp [Value.ownBlock]; exact G)
   refine ⟨s.os.trans p.os, s.tape.trans p.tape, s.output.trans p.output, tR.trans p.drawn (tR.of ab), dT p.size s.size, fun b n hF => ?_, fun b o n => ?_, fun b o n => ?_, ?_⟩
   ·rw [hold b (eF n p.size) (fun I => by subst I; rcases M.2.2 with h | h; omega; exact hF h)]
    exact p.mo b n hF
   ·rw [hold b (p.Et n) (fun I => by subst I; rw [M.2.1] at n; cases n)]
    exact p.mem b o n
   ·simp only [aV, bX] at n
    rcases n with n | n | n
    ·obtain ⟨U, r2⟩ := p.box b o (by simp [n])
     exact ⟨by rw [hold b (nS U) (G b o (by simp [n]))]; exact U, r2⟩
    ·cases n
     refine ⟨ae, ?_, .inl (dT p.size Q)⟩
     cases hm : μ O with
     | none => rfl
     | some x => have := p.Et hm; omega
    ·obtain ⟨U, r2⟩ := p.box b o (by simp [n])
     exact ⟨by rw [hold b (nS U) (G b o (by simp [n]))]; exact U, r2⟩
   ·have ay : (X.map (·.1) ++ Y.map (·.1)).Nodup := (dY.1 ((ij fH).1 D)).2
    simp only [cL, bP, gO]
    refine (ij fH).2 (dY.2 ⟨fun hm => ?_, ay⟩)
    rw [← cL] at hm
    obtain ⟨⟨b, o⟩, n, I⟩ := bL.1 hm
    have := p.Gn (b := b) (o := o) (by rcases aV.1 n with h | h <;> simp [h])
    simp at I
    omega
end
end Go.Proofs.YtmlncblocfcmiaaGreat
namespace Go.Proofs.YtmlncblocfcmiaaGreat
open Go.RowKit
def Cv (l : List Value) : Nat → Value := fun t => l.getD t undef
def xM (P : Program) (fn : Func) (R : Ending → World → Prop) : qF
 | .normal, E, W | .ret, E, W => ∃ v, (∀ tmps : Array Value, (∀ t, tmps.getD t undef = E t) → (results fn tmps).run P W = .ok v W) ∧ R (.returned v) W
 | _, _, _ => False
theorem zd {P : Program} {f : FuncId} {fn : Func} {c : Code} {args : List Value} {w : World} {R : Ending → World → Prop} {n : Nat} (p : P.funcs[f]? = some fn) (m : fn.body = some c) (q : fn.ntmps = n) (ha : args.length ≤ n) (h : CW P n c (xM P fn R) (Cv args) w) : Calls P f args.toArray w R := by
 refine calls_of_wp p m ?_
 have i : Ag n { tmps := args.toArray ++ Array.replicate (fn.ntmps - args.toArray.size) undef, defers := [] } (Cv args) := by
  refine ⟨by simp; omega, rfl, fun t => ?_⟩
  simp only [Cv, eZ, List.getD_eq_getElem?_getD, Array.getElem?_append, Array.getElem?_replicate, ew, List.getElem?_toArray]
  by_cases k : t < args.length
  ·rw [bD k]
  ·rw [bI k, eT (by omega)]
   split <;> simp
 refine wp_mono (h _ i) (fun e a r d => ?_)
 cases e with
 | normal =>
  obtain ⟨E, b, v, j, g⟩ := d
  exact ⟨b.2.1, v, j _ b.2.2, g⟩
 | ret =>
  obtain ⟨E, b, v, j, g⟩ := d
  exact ⟨b.2.1, v, j _ b.2.2, g⟩
 | exit id => obtain ⟨E, b, h⟩ := d; exact h.elim
 | goto l => obtain ⟨E, b, h⟩ := d; exact h.elim
 | panic c => exact d.elim
 | outgrown => exact d.elim
section
variable {P : Program} {fn : Func} {R : Ending → World → Prop} {E : Nat → Value} {W : World}
theorem kY {r : Tmp} {v : Value} (a : fn.results = #[.tmp r]) (d : E r = v) (h : R (.returned v) W) : xM P fn R .ret E W :=
 ⟨v, fun tmps b => by rw [results_tmp a, b, d], h⟩
theorem AK {r s : Tmp} {v u : Value} (b : fn.results = #[.tmp r, .tmp s]) (d : E r = v) (hu : E s = u) (h : R (.returned (.tuple #[v, u])) W) : xM P fn R .ret E W :=
 ⟨.tuple #[v, u], fun tmps a => by rw [results_tmp2 b, a, a, d, hu], h⟩
theorem oL (a : fn.results = #[]) (h : R (.returned (.tuple #[])) W) : xM P fn R .ret E W :=
 ⟨.tuple #[], fun tmps _ => by rw [results_none a], h⟩
theorem mR {r : Tmp} {t : TypeId} {a : Addr} {v : Value} (b : fn.results = #[.cell r t]) (i : E r = .pointer (some a)) (g : (Instr.loadAt t (.pointer (some a))).run P W = .ok v W) (h : R (.returned v) W) : xM P fn R .ret E W :=
 ⟨v, fun tmps d => by
  have h1 : (loadVar t a).run P W = .ok v W := by simpa [Instr.loadAt, Instr.sureAddr] using g
  simp [results, b, d, i, asAddr, h1], h⟩
theorem qh (h : xM P fn R .ret E W) : xM P fn R .normal E W := h
end
section
variable {Q : qF} {E : Nat → Value} {W : World} {K : (Nat → Value) → World → Prop} {id j : Nat}
theorem ko (h : Q .normal E W) : wC id Q .normal E W := h
theorem me (h : Q .ret E W) : wC id Q .ret E W := h
theorem qx (h : Q .normal E W) : wC id Q (.exit id) E W := by simp [wC]; exact h
theorem PO (a : (j = id) = False) (h : Q (.exit j) E W) : wC id Q (.exit j) E W := by simp only [wC, a, aK]; exact h
theorem jF (h : K E W) : qo K Q .normal E W := h
theorem kj (h : Q .ret E W) : qo K Q .ret E W := h
theorem mS (h : Q (.exit j) E W) : qo K Q (.exit j) E W := h
end
theorem Mq {i N : Nat} (b : i < N) (a : N ≤ 9223372036854775807) : IntKind.i64.wrap ((i : Int) + 1) = ((i + 1 : Nat) : Int) := by
 rw [IntWalk.i64_in _ (by omega)]
 omega
theorem kB {P : Program} {n : Nat} {Q : qF} {E : Nat → Value} {W : World} {g s U Y p q A u : Nat} {t1 t2 t3 t4 t5 t6 t7 : TypeId} {O R T : String} {f1 f2 f3 : Array Edge} {body : Code} (I : Nat → (Nat → Value) → World → Prop) (N : Nat) (J : N ≤ 9223372036854775807) (D : I 0 E W) (L : p < n) (M : u < n) (z : q < n) (G : ∀ i E W, I i E W → E q = .int .i64 (i : Nat) ∧ E A = .int .i64 (N : Nat)) (round : ∀ i E W, i < N → I i E W → CW P n (.block s body) (qo (fun E' W' => E' q = .int .i64 (i : Nat) ∧ I (i + 1) (nQ (nQ E' u (.int .i64 ((i + 1 : Nat) : Int))) q (.int .i64 ((i + 1 : Nat) : Int))) W') (wC g Q)) (nQ E p (.bool true)) W) (done : ∀ E W, I N E W → Q .normal (nQ E p (.bool false)) W) :
  CW P n (.block g (.loop (.seq (.region U #[⟨some p, .binOp .lss t1 (.tmp q) (.tmp A) t2, t3, O, f1, none⟩] false)
   (.seq (.cond (.tmp p) .skip (.exit g)) (.seq (.block s body)
    (.region Y #[⟨some u, .binOp .add t4 (.tmp q) (.const (.int .i64 1)) t5, t6, R, f2, none⟩, ⟨some q, .move (.tmp u), t7, T, f3, none⟩] false)))))) Q E W := by
 refine ll (mU (fun m E W => ∃ i, i ≤ N ∧ m = N - i ∧ I i E W) N ⟨0, eX _, by omega, D⟩ ?_)
 rintro m E W ⟨i, Z, rfl, d⟩
 obtain ⟨w, x⟩ := G i E W d
 refine jK (jI (Hk (.inl rfl) rfl L (kx w x rfl) (jW ?_)))
 refine jF (jK ?_)
 have t : nQ E p (.bool (decide ((i : Int) < (N : Int)))) p = .bool (decide ((i : Int) < (N : Int))) := by simp [nQ]
 by_cases r : i < N
 ·have y : decide ((i : Int) < (N : Int)) = true := by simp; omega
  rw [y] at t ⊢
  refine wK t (kP (jF (jK ?_)))
  refine GR (round i E W r d) (fun e E' W' h => ?_)
  cases e with
  | normal =>
   obtain ⟨h1, F⟩ := h
   refine jF ?_
   have hw : IntKind.i64.wrap ((i : Int) + 1) = ((i + 1 : Nat) : Int) := Mq r J
   refine jI (Hk (v := .int .i64 ((i + 1 : Nat) : Int)) (.inl rfl) rfl M (kx (k := .i64) (a := (i : Int)) (b := 1) h1 rfl (by simp only [Ii, hw])) ?_)
   refine Hk (v := .int .i64 ((i + 1 : Nat) : Int)) (.inl rfl) rfl z (jE (by simp [jG, nQ])) (jW ?_)
   exact jF ⟨N - (i + 1), by omega, i + 1, by omega, rfl, F⟩
  | exit j => exact h
  | goto l => exact h
  | ret => exact h
  | panic c => exact h
  | outgrown => exact h
 ·have y : decide ((i : Int) < (N : Int)) = false := by simp; omega
  rw [y] at t ⊢
  obtain rfl : i = N := by omega
  refine rE t (mZ (mS (mS (qx ?_))))
  exact done E W d
theorem Mc {P : Program} {n : Nat} {x : Code} {Q : qF} {K : (Nat → Value) → World → Prop} {E : Nat → Value} {W : World} (J : (Nat → Value) → World → Prop) (h : CW P n x (qo J Q) E W) (k : ∀ E W, J E W → K E W) : CW P n x (qo K Q) E W :=
 GR h (fun e E W h => by cases e <;> first | exact k E W h | exact h)
theorem PD {α : Type} {c : Bool} {x y r : α} (a : c = true) (h : (if c = true then x else y) = r) : x = r := by rw [bD a] at h; exact h
theorem Px {α : Type} {c : Bool} {x y r : α} (a : c = false) (h : (if c = true then x else y) = r) : y = r := by rw [bI (by rw [a]; decide)] at h; exact h
theorem bind_some {α β : Type} {o : Option α} {f : α → Option β} {r : β} (h : o.bind f = some r) : ∃ y, o = some y ∧ f y = some r := by
 cases o with
 | none => cases h
 | some y => exact ⟨y, rfl, h⟩
theorem KT (b : Bool) : b = true ∨ b = false := by cases b <;> simp
theorem kq {α : Type} {l : List α} {i : Nat} (h : i < l.length) : ∃ x xs, l.drop i = x :: xs ∧ l[i]? = some x ∧ l.drop (i + 1) = xs := by
 cases a : l.drop i with
 | nil => have := bN List.length a; simp at this; omega
 | cons x xs => exact ⟨x, xs, rfl, by rw [← List.head?_drop, a]; rfl, by rw [← List.drop_drop, a]; rfl⟩
theorem DE {P : Program} {W : World} (d : Nat) (xs ys : Array Value) : (Op.eqFields d xs ys []).run P W = .ok true W := by simp [Op.eqFields]
theorem qQ {P : Program} {W : World} {d : Nat} {xs ys : Array Value} {f : Field} {fs : List Field} {a b : Value} {r s : Bool} (i : f.name ≠ "_") (ha : (part f.type xs f.offset).run P W = .ok a W) (g : (part f.type ys f.offset).run P W = .ok b W) (he : (Op.equalIn d f.type a b).run P W = .ok r W) (h : (Op.eqFields d xs ys fs).run P W = .ok s W) : (Op.eqFields d xs ys (f :: fs)).run P W = .ok (r && s) W := by
 simp only [Op.eqFields, ne_eq, i, not_false_eq_true, aT, cF, ha, g, he, bT]
 cases r <;> simp [h]
theorem yP {P : Program} {W : World} {t : TypeId} {k : Nat} {cs : Array Value} {off : Nat} {v : Array Value} (a : ∀ w, (isAgg t).run P w = .ok true w) (b : ∀ w, (sizeOf t).run P w = .ok k w) (d : cs.extract off (off + k) = v) : (part t cs off).run P W = .ok (.agg v) W := by
 simp [part, a W, b W, d]
theorem sF {P : Program} {W : World} {t : TypeId} {cs : Array Value} {off : Nat} {v : Value} (a : ∀ w, (isAgg t).run P w = .ok false w) (b : cs[off]? = some v) : (part t cs off).run P W = .ok v W := by
 simp [part, a W, b]
def kQ (a b : ByteArray) : Bool := a.toList == b.toList
theorem On {P : Program} {t : TypeId} (g : P.underlying t = some .string) (d : Nat) (a b : ByteArray) (W : World) : (Op.equalIn (d + 1) t (.string a) (.string b)).run P W = .ok (kQ a b) W := run_equalIn_string W d t a b g
theorem Se {P : Program} {t : TypeId} {k : IntKind} (g : P.underlying t = some (.int k)) (d : Nat) (a b : Int) (W : World) : (Op.equalIn (d + 1) t (.int k a) (.int k b)).run P W = .ok (a == b) W := run_equalIn_int W d t k k a b g
theorem nm {P : Program} {op : BinOp} {t : TypeId} {x y : Operand} {a b : Array Value} (d : P.eqGuardType P.depth t = false) (W : World) : (eqGuard op t x y (.agg a) (.agg b)).run P W = .ok () W := by
 cases op <;> simp [eqGuard] <;> (intro h; rw [d] at h; cases h)
theorem qO {P : Program} {t : TypeId} {a b : Array Value} {r : Bool} (h : ∀ W, (Op.equalIn Op.maxDepth t (.agg a) (.agg b)).run P W = .ok r W) (W : World) : (binOp .eql t (.agg a) (.agg b)).run P W = .ok (.bool r) W := by
 simp [binOp, Op.equal, h W]
theorem B9 {P : Program} {t : TypeId} {a b : Array Value} {r : Bool} (h : ∀ W, (Op.equalIn Op.maxDepth t (.agg a) (.agg b)).run P W = .ok r W) (W : World) : (binOp .neq t (.agg a) (.agg b)).run P W = .ok (.bool !r) W := by
 simp [binOp, Op.equal, h W]
end Go.Proofs.YtmlncblocfcmiaaGreat
namespace Go.Proofs.YtmlncblocfcmiaaGreat
open Go.RowKit
variable {dd : Bool}
def lu (k : IntKind) (x : Int) : List Value := [.int k x]
def P0 (x : Bool) : List Value := [.bool x]
def sU (x : ByteArray) : List Value := [.string x]
theorem Fw (k : IntKind) (x : Int) : ∀ u ∈ lu k x, u.oneCell' = true := by intro u hu; simp [lu] at hu; subst hu; rfl
theorem RM (x : Bool) : ∀ u ∈ P0 x, u.oneCell' = true := by intro u hu; simp [P0] at hu; subst hu; rfl
theorem KS (x : ByteArray) : ∀ u ∈ sU x, u.oneCell' = true := by intro u hu; simp [sU] at hu; subst hu; rfl
def zS : ByteArray := ⟨#[]⟩
def pI (a b : ByteArray) : Bool := Op.bytesLess a.toList b.toList
@[irreducible] def jY : Nat := 18446744073709551616
theorem wQ : jY = 18446744073709551616 := by unfold jY; rfl
def lE {α : Type} (l : List α) (i : Int) : Option α := if 0 ≤ i then l[i.toNat]? else none
theorem kk {α : Type} {l : List α} {i : Int} {x : α} (h : lE l i = some x) : 0 ≤ i := by
 unfold lE at h; split at h
 ·assumption
 ·cases h
theorem ki {α : Type} {l : List α} {i : Int} {x : α} (h : lE l i = some x) : l[i.toNat]? = some x := by
 unfold lE at h; split at h
 ·exact h
 ·cases h
theorem EF {α : Type} (l : List α) (i : Nat) : lE l (i : Int) = l[i]? := by simp [lE]
def zN (s : ByteArray) (i : Int) : Option UInt8 := if 0 ≤ i then s[i.toNat]? else none
theorem ze {s : ByteArray} {i : Int} {x : UInt8} (h : zN s i = some x) : 0 ≤ i := by
 unfold zN at h; split at h
 ·assumption
 ·cases h
theorem Ct {s : ByteArray} {i : Int} {x : UInt8} (h : zN s i = some x) : s[i.toNat]? = some x := by
 unfold zN at h; split at h
 ·exact h
 ·cases h
section
variable {F : Nat → Prop} {w W : World} {μ : kl} {L L' : List (Nat × Obj)} {α : Type} {e : TypeId} {enc : α → List Value} {k : Nat} {v : Value} {l : List α} {R : List (Nat × Obj)}
theorem ST.at_ (h : ST dd F w W μ L) {b : Nat} {o : Obj} (a : (b, o) ∈ L) : hp W b = some o := (h.box b o a).1
theorem jT.RB (h : jT e enc k v l R) (hk : ∀ x, (enc x).length = k) (a : ST dd F w W μ L) (b : ∀ p, p ∈ R → p ∈ L) : Sl (Pl enc) k (hp W) v l :=
 h.sl hk (fun _ _ d => a.at_ (b _ d))
theorem jT.form (h : jT e enc k v l R) : ∃ A c, v = .slice A l.length c := by
 rcases h with ⟨rfl, rfl, rfl⟩ | ⟨g, cap, cur, rfl, rfl, h1, a, b, d⟩
 ·exact ⟨_, _, rfl⟩
 ·exact ⟨_, _, rfl⟩
theorem Sl.form {R : pE α} (h : Sl R k μ v l) : ∃ A c, v = .slice A l.length c := let ⟨A, c, h, _⟩ := h; ⟨A, c, h⟩
theorem Sl.lit {b m : Nat} {cs : Array Value} (hk : ∀ x, (enc x).length = k) (hm : l.length = m) (d : m ≤ maxLen) (a : cs.toList = (l.map enc).flatten) (g : μ b = some (.cells cs e (0, 0))) : Sl (Pl enc) k μ (.slice (some ⟨b, 0, none⟩) m m) l :=
 (jT.lit (e := e) (b := b) hm d a (by have := bN List.length a; rw [pL hk, dO, hm] at this; exact this)).sl hk (fun i o h => by simp at h; obtain ⟨rfl, rfl⟩ := h; exact g)
theorem Fr.box (h : ST dd ku w W μ L) {b m c : Nat} {o : Obj} (d : (b, o) ∈ L) : Fr w.heap.size (.slice (some ⟨b, 0, none⟩) m c) := by
 intro g a
 simp [Value.ownBlock] at a
 subst a
 rcases (h.box b o d).2.2 with h | h
 ·exact h
 ·exact h.elim
theorem ST.perm (h : ST dd F w W μ L) (hp : L.Perm L') : ST dd F w W μ L' :=
 ⟨h.os, h.tape, h.output, h.drawn, h.size, h.mo, h.mem, fun b o a => h.box b o (hp.mem_iff.2 a), (hp.map _).nodup_iff.1 h.nd⟩
theorem ST.sublist (h : ST dd F w W μ L) (a : L'.Sublist L) : ST dd F w W μ L' :=
 ⟨h.os, h.tape, h.output, h.drawn, h.size, h.mo, h.mem, fun b o d => h.box b o (a.subset d), h.nd.sublist (a.map _)⟩
end
section
variable {E : Nat → Value} {x1 x2 x3 x4 x5 x6 : Operand} {v1 v2 v3 v4 v5 v6 : Value}
theorem ua (h1 : jG E x1 = v1) : #[x1].map (jG E) ++ (#[] : Array Value) = [v1].toArray := by simp [h1]
theorem we (h1 : jG E x1 = v1) (a : jG E x2 = v2) : #[x1, x2].map (jG E) ++ (#[] : Array Value) = [v1, v2].toArray := by simp [h1, a]
end
theorem HF : ∀ (v : List Value) (i off : Nat) (cells : Array Value), off + i + v.length ≤ cells.size →
  (v.zipIdx i).foldl (fun cs (c, j) => cs.setIfInBounds (off + j) c) cells = (cells.toList.take (off + i) ++ v ++ cells.toList.drop (off + i + v.length)).toArray
 | [], i, off, cells, h => by simp
 | c :: v, i, off, cells, h => by
  simp only [iT, gv]
  simp only [aO] at h
  rw [HF v (i + 1) off _ (by simp; omega)]
  have d : off + i < cells.toList.length := by simp; omega
  congr 1
  rw [Array.toList_setIfInBounds]
  apply eO
  intro j
  have g : (cells.toList.take (off + i)).length = off + i := by simp; omega
  by_cases h1 : j < off + i
  ·simp only [ga, aF, dF, ie, dO, aO, fM, fu, dM]
   rw [show min (off + (i + 1)) cells.size = off + (i + 1) by omega, show min (off + i) cells.size = off + i by omega]
   rw [bD (by omega), bD (by omega), bD (by omega), bI (by omega), bD (by omega), bD (by omega), bD (by omega)]
  ·by_cases b : j = off + i
   ·subst b
    simp [ga, fM, fu, show off + i < off + (i + 1) by omega]
    rw [bD (by omega), bD (by omega), bI (by omega), show off + i - min (off + i) cells.size = 0 by omega]
    rfl
   ·simp only [ga, aF, dF, ie, dO, aO, fM, fu, dM]
    rw [show min (off + (i + 1)) cells.size = off + (i + 1) by omega, show min (off + i) cells.size = off + i by omega]
    by_cases a : j < off + (i + 1) + v.length
    ·rw [bD a, bI (by omega), bD (by omega), bI (by omega)]
     rw [show j - (off + i) = (j - (off + (i + 1))) + 1 by omega]
     simp
    ·rw [bI a, bI (by omega), bI (by omega)]
     congr 1
     omega
theorem I0 {k : Nat} : ∀ (vs : List Value) (i : Nat) (pre rest : List Value), (∀ v ∈ vs, v.cells.size = k) → pre.length = i * k → rest.length = vs.length * k →
  Instr.fill (fun i => some (i * k, k)) (pre ++ rest).toArray ((vs.zipIdx i).map (fun p => (p.2, p.1))) = some (pre ++ vs.flatMap (fun v => v.cells.toList)).toArray
 | [], i, pre, rest, d, hp, b => by
  have : rest = [] := by cases rest <;> simp at b ⊢
  simp [Instr.fill, this]
 | v :: vs, i, pre, rest, d, hp, b => by
  have a := d v (by simp)
  have g : v.cells.zipIdx.foldl (fun cs (c, j) => cs.setIfInBounds (i * k + j) c) (pre ++ rest).toArray = (pre ++ v.cells.toList ++ rest.drop k).toArray := by
   have := HF v.cells.toList 0 (i * k) (pre ++ rest).toArray (by simp [hp, b, a, cR])
   rw [← Array.toList_zipIdx, Array.foldl_toList] at this
   rw [this]
   congr 1
   simp [← hp, a]
  simp only [iT, bP, Instr.fill]
  rw [bI (by simp [a, hp, b, cR]), g]
  have := I0 vs (i + 1) (pre ++ v.cells.toList) (rest.drop k) (fun u hu => d u (by simp [hu])) (by simp [hp, a, cR]) (by simp [b, cR])
  rw [this]
  simp
theorem Np {k m : Nat} {a cs : Array Value} {b : Array (Nat × Value)} (vs : List Value) (g : b.toList = vs.zipIdx.map (fun p => (p.2, p.1))) (j : ∀ v ∈ vs, v.cells.size = k) (hm : vs.length = m) (h : a.size = m * k) (d : (vs.flatMap (fun v => v.cells.toList)).toArray = cs) : Instr.fill (fun i => some (i * k, k)) a b.toList = some cs := by
 subst hm d
 rw [g]
 have := I0 vs 0 [] a.toList j (by simp) (by simpa using h)
 simpa using this
theorem yS {P : Program} {t e : TypeId} {m k : Nat} {z : Value} {a : Array (Nat × Value)} {cs : Array Value} (vs : List Value) (i : P.underlying t = some (.slice e)) (h : ∀ w, (sizeOf e).run P w = .ok k w) (l : ∀ w, (zeroValue e).run P w = .ok z w) (hm : m * k ≤ 16777216) (g : a.toList = vs.zipIdx.map (fun p => (p.2, p.1))) (j : ∀ v ∈ vs, v.cells.size = k) (d : vs.length = m) (b : (vs.flatMap (fun v => v.cells.toList)).toArray = cs) (W : World) :
  (Instr.buildSlice t m a).run P W = .ok (.slice (some ⟨W.heap.size, 0, none⟩) m m) (W.alloc (.cells cs e (0, 0))) :=
 Ha i h l hm (Np vs g j d (by simp) b) W
theorem pM {E : Nat → Value}  : (#[] : Array (Nat × Operand)).map (fun (i, x) => (i, jG E x)) = #[] := by simp
theorem lJ {E : Nat → Value} {x0 : Operand} {v0 : Value} {i0 : Nat} (a : jG E x0 = v0) : (#[(i0, x0)] : Array (Nat × Operand)).map (fun (i, x) => (i, jG E x)) = #[(i0, v0)] := by simp [a]
theorem nY {E : Nat → Value} {x0 x1 : Operand} {v0 v1 : Value} {i0 i1 : Nat} (a : jG E x0 = v0) (h1 : jG E x1 = v1) : (#[(i0, x0), (i1, x1)] : Array (Nat × Operand)).map (fun (i, x) => (i, jG E x)) = #[(i0, v0), (i1, v1)] := by simp [a, h1]
theorem El {E : Nat → Value} {x0 x1 x2 : Operand} {v0 v1 v2 : Value} {i0 i1 i2 : Nat} (a : jG E x0 = v0) (h1 : jG E x1 = v1) (b : jG E x2 = v2) : (#[(i0, x0), (i1, x1), (i2, x2)] : Array (Nat × Operand)).map (fun (i, x) => (i, jG E x)) = #[(i0, v0), (i1, v1), (i2, v2)] := by simp [a, h1, b]
theorem Qs {E : Nat → Value} {x0 x1 x2 x3 : Operand} {v0 v1 v2 v3 : Value} {i0 i1 i2 i3 : Nat} (a : jG E x0 = v0) (h1 : jG E x1 = v1) (b : jG E x2 = v2) (d : jG E x3 = v3) : (#[(i0, x0), (i1, x1), (i2, x2), (i3, x3)] : Array (Nat × Operand)).map (fun (i, x) => (i, jG E x)) = #[(i0, v0), (i1, v1), (i2, v2), (i3, v3)] := by simp [a, h1, b, d]
theorem kL {P : Program} {t : TypeId} {f off : Nat} {fs : Array Field} {fd : Field} (h : P.underlying t = some (.struct fs)) (a : fs[f]? = some fd) {k : Nat} (g : ∀ w, (sizeOf fd.type).run P w = .ok k w) (hk : k ≠ 0) (d : fd.offset = off) : lI P t f off := by
 intro b o w
 subst d
 simp [Instr.fieldAt, bJ h, a, Instr.sureAddr, fieldPlace, dU, g w, hk]
theorem Ag.GL {n : Nat} {a : Act} {E : Nat → Value} (h : Ag n a E) {ops : Array Oper} {j t : Nat} (d : (ops[j]?).bind (·.dst) = some t) (i : t < n) (k : E t = undef) : yielded ops a.tmps j = none := by
 have b := h.2.2 t
 have g : a.tmps[t]? = some (E t) := by
  rw [← b]
  simp [eZ, h.1, i]
 simp [yielded, d, g, k, undef]
theorem P6 {P : Program} {n : Nat} {Q : qF} {E : Nat → Value} {W : World} {ops : Array Oper} {rest : List Oper} {o : Oper} {d j t : Nat} {want : Bool} (g : o.dst = some d) (l : d < n) (i : o.guard = some (j, want)) (k : (ops[j]?).bind (·.dst) = some t) (m : t < n) (b : E t = undef) (h : LW P n ops Q rest (nQ E d undef) W) : LW P n ops Q (o :: rest) E W := fun a ha => by
 unfold wpList
 have p := ha.GL k m b
 rw [bI (by simp [Region.wanted, i, p])]
 rw [g]
 exact h _ (ha.put l _)
theorem Pu {P : Program} {n : Nat} {Q : qF} {E : Nat → Value} {W : World} {ops : Array Oper} {rest : List Oper} {A : Value → Prop} {o : Oper} {dd : Nat} (hw : sN n ops E o) (b : o.dst = some dd) (d : dd < n) (g : ∃ p, A p ∧ ∀ W, lQ P E o W p W) (h : ∀ p, A p → LW P n ops Q rest (nQ E dd p) W) : LW P n ops Q (o :: rest) E W := by
 obtain ⟨p, h1, a⟩ := g
 exact Hk hw b d (a W) (h p h1)
end Go.Proofs.YtmlncblocfcmiaaGreat
namespace Go.Proofs.YtmlncblocfcmiaaGreat
open Go.RowKit
variable {dd : Bool}
theorem qb {P : Program} {n : Nat} {x : Code} {Q : qF} {E : Nat → Value} {W : World} (h : CW P n x (qo (fun E W => Q .normal E W) Q) E W) : CW P n x Q E W :=
 GR h (fun e E W h => by cases e <;> exact h)
section
variable {P : Program} {n : Nat} {Q : qF} {E : Nat → Value} {W : World} {d : Option Nat} {ty : TypeId} {pos : String} {af : Array Edge} {g : Option (Nat × Bool)}
 {F : Nat → Prop} {w : World} {μ : kl} {L : List (Nat × Obj)}
def Oq (k : IntKind) (op : BinOp) (a b : Int) : Option Value :=
 match op with
 | .quo => some (.int k (k.wrap (a.tdiv b)))
 | .rem => some (.int k (a.tmod b))
 | .and => some (.int k (k.wrap (BitVec.ofInt k.bits a &&& BitVec.ofInt k.bits b).toNat))
 | .or => some (.int k (k.wrap (BitVec.ofInt k.bits a ||| BitVec.ofInt k.bits b).toNat))
 | _ => none
theorem Ih {op : BinOp} {h n : TypeId} {x y : Operand} {k : IntKind} {a b : Int} {v : Value} (l : jG E x = .int k a) (m : jG E y = .int k b) (j : b ≠ 0) (i : Oq k op a b = some v) :
  lQ P E ⟨d, .binOp op h x y n, ty, pos, af, g⟩ W v W := by
 show (do let r ← (do eqGuard op h x y (jG E x) (jG E y); binOp op h (jG E x) (jG E y)); pure (.value r) : Sem Next).run P W = _
 rw [l, m]
 cases op <;> simp [Oq] at i <;> subst i <;> simp [eqGuard, binOp, Op.intDiv, Op.intBits, j]
theorem Gp {h l : TypeId} {x y : Operand} {k k' : IntKind} {a b : Int} (i : jG E x = .int k a) (j : jG E y = .int k' b) (m : 0 ≤ b) :
  lQ P E ⟨d, .binOp .shr h x y l, ty, pos, af, g⟩ W (.int k (a.fdiv (2 ^ min b.toNat k.bits))) W := by
 show (do let r ← (do eqGuard .shr h x y (jG E x) (jG E y); binOp .shr h (jG E x) (jG E y)); pure (.value r) : Sem Next).run P W = _
 rw [i, j]
 simp [eqGuard, binOp, Op.shift, show ¬ b < 0 by omega]
theorem qP {s t : TypeId} {x : Operand} {k k' : IntKind} {a : Int} {u : TypeDesc} (b : P.underlying s = some u) (h : P.underlying t = some (.int k)) (i : jG E x = .int k' a) :
  lQ P E ⟨d, .convert s t x, ty, pos, af, g⟩ W (.int k (k.wrap a)) W := by
 show (do pure (.value (← convert s t (jG E x))) : Sem Next).run P W = _
 rw [i]
 simp [convert, bJ b, bJ h, Conv.intToInt]
theorem GW {t e : TypeId} (dd : Nat) (a : P.underlying t = some (.slice e)) (A : Option Addr) (l c : Nat) (W : World) : (Op.equalIn (dd + 1) t (.slice A l c) (.slice none 0 0)).run P W = .ok A.isNone W := by
 cases A <;> simp [Op.equalIn, bJ a]
theorem zt {a k e : TypeId} {x y : Operand} {A : Option Addr} {l c : Nat} (h : P.underlying a = some (.slice e)) (i : jG E x = .slice A l c) (j : jG E y = .slice none 0 0) :
  lQ P E ⟨d, .binOp .eql a x y k, ty, pos, af, g⟩ W (.bool A.isNone) W := by
 show (do let r ← (do eqGuard .eql a x y (jG E x) (jG E y); binOp .eql a (jG E x) (jG E y)); pure (.value r) : Sem Next).run P W = _
 rw [i, j]
 have b := GW 9999 h A l c W
 simp [eqGuard, binOp, Op.equal, show Op.maxDepth = 9999 + 1 from rfl, b]
def sL (s : ByteArray) : List Int := s.data.toList.map (fun b => (b.toNat : Int))
def B7 (s : ByteArray) : Option (List Int) := if s.size ≤ maxLen then some (sL s) else none
theorem pb (s : ByteArray) : (sL s).length = s.size := by simp only [sL, dA, dO]; rfl
theorem KP {s : ByteArray} {cap i : Nat} {x : Int} (h : (sL s)[i]? = some x) : (bytesRow s cap)[i]? = some (.int .u8 x) := by
 have g : i < s.size := by have := (bK.1 h).1; rwa [pb] at this
 have a : i < s.data.size := g
 simp [sL] at h
 obtain ⟨b, d, rfl⟩ := h
 rw [bytesRow, Array.getElem?_append_left (by simpa using a)]
 simp [d]
theorem HJ {K : Value → World → Prop} {s t e : TypeId} {x : Operand} {str : ByteArray} {l : List Int} (k : ST dd F w W μ L) (r : P.underlying s = some .string) (q : P.underlying t = some (.slice e)) (he : P.underlying e = some (.int .u8)) (n : jG E x = .string str) (a : B7 str = some l) (h : ∀ W' v μ', ST dd F w W' μ' L → kd μ μ' → Lo F w μ μ' → Sl (Pl (lu .u8)) 1 μ' v l → Fr w.heap.size v → K v W') : nn P E ⟨d, .convert s t x, ty, pos, af, g⟩ W K := by
 unfold B7 at a
 split at a
 case isFalse => cases a
 rename_i hm
 cases a
 have m := run_bytes_of_string (P := P) W s t e str r q he
 have h1 := k.drew.alloc (.cells (bytesRow str (grownCap W str.size 0 e)) e ((bytesRow str (grownCap W str.size 0 e)).size, (bytesRow str (grownCap W str.size 0 e)).size + 1))
 refine .inl ⟨.slice (some ⟨W.heap.size, 0, none⟩) str.size (grownCap W str.size 0 e), _, ?_, h _ _ _ (ST.G8 (A := []) h1) (ST.Hd (A := []) h1) (ST.ML (A := []) h1) ?_ ?_⟩
 ·show (do pure (.value (← convert s t (jG E x))) : Sem Next).run P W = _
  rw [n]
  simp only [cF, m, bT, dC]
 ·refine ⟨_, grownCap W str.size 0 e, by rw [pb], by rw [pb]; exact grownCap_ge W str.size 0 e, grownCap_le_maxLen W str.size 0 e hm, fun _ => ⟨W.heap.size, 0, bytesRow str (grownCap W str.size 0 e), e, _, rfl, bD rfl, fun i x n => ⟨_, rfl, rfl, fun j y p => ?_⟩⟩⟩
  cases j with
  | zero => simp [lu] at p; subst p; simpa using KP n
  | succ j => simp [lu] at p
 ·intro b a
  simp [Value.ownBlock] at a
  subst a
  exact k.size
def DJ (l : List Int) : ByteArray := l.foldl (fun r n => r.push (UInt8.ofNat n.toNat)) ByteArray.empty
theorem Ks {s t e : TypeId} {x : Operand} {v : Value} {l : List Int} (z : P.underlying s = some (.slice e)) (he : P.underlying e = some (.int .u8)) (y : P.underlying t = some .string) (F : jG E x = v) (D : Sl (Pl (lu .u8)) 1 (hp W) v l) :
  lQ P E ⟨d, .convert s t x, ty, pos, af, g⟩ W (.string (DJ l)) W := by
 show (do pure (.value (← convert s t (jG E x))) : Sem Next).run P W = _
 obtain ⟨A, c, rfl, G, I, q⟩ := D
 rw [F]
 simp only [cF, run_convert_bytes_string W s t e A l.length c z he y]
 rcases eU l.length with h | h
 ·have : l = [] := eG.1 h
  subst this
  cases A with
  | none => simp [Conv.bytesToString, DJ]
  | some a =>
   have r := run_bytesToString (P := P) W a 0 c [] (by simpa using iB (P := P) W a [] (by simp))
   simp only [bW]
   rw [r]
   simp [DJ]
 ·obtain ⟨b, off, cs, T, fr, rfl, u, w⟩ := q h
  have p := iB (P := P) W ⟨b, off, none⟩ (l.map (Value.int .u8)) (fun j v n => by
   simp at n
   obtain ⟨x, k, rfl⟩ := n
   obtain ⟨ys, _, m, i⟩ := w j x k
   cases m
   rw [dU, gz W b (off + j) cs T fr u]
   have := i 0 (.int .u8 x) rfl
   simpa using this)
  simp only [dA] at p
  rw [run_bytesToString W _ l.length c l p]
  simp [DJ]
end
end Go.Proofs.YtmlncblocfcmiaaGreat
namespace Go.Proofs.YtmlncblocfcmiaaGreat
open Go.RowKit
variable {dd : Bool}
def keys (L : List (Nat × Obj)) : Nat → Prop := fun b => ∃ o, (b, o) ∈ L
structure Sf (dd : Bool) (F : Nat → Prop) (w W : World) : Prop where
 os : W.os = w.os
 tape : W.tape = w.tape
 output : W.output = w.output
 drawn : tR dd w.drawn W.drawn
 size : w.heap.size ≤ W.heap.size
 mo : ∀ b, b < w.heap.size → ¬ F b → W.heap[b]? = w.heap[b]?
def Ei (L : List (Nat × Obj)) (W : World) : Prop := ∀ b o, (b, o) ∈ L → W.heap[b]? = some o
structure tT (dd : Bool) (L0 L1 : List (Nat × Obj)) (w w' : World) : Prop where
 ex : Sf dd (keys L0) w w'
 held : ∀ b o, (b, o) ∈ L1 → w'.heap[b]? = some o ∧ (w.heap.size ≤ b ∨ keys L0 b)
 nd : (L1.map (·.1)).Nodup
open Classical in
noncomputable def uc (w : World) (L : List (Nat × Obj)) : kl := fun b => if keys L b then none else w.heap[b]?
open Classical in
noncomputable def A8 (μ : kl) (W W' : World) (L1 : List (Nat × Obj)) : kl := fun b => if b < W.heap.size then μ b else if keys L1 b then none else W'.heap[b]?
section
variable {F : Nat → Prop} {w W W' : World} {μ μ' : kl} {L L0 L1 : List (Nat × Obj)}
theorem ST.P4 (a : Ei L0 w) (d : (L0.map (·.1)).Nodup) : ST dd (keys L0) w w (uc w L0) L0 :=
 ⟨rfl, rfl, rfl, tR.of (aY _), aY _, fun _ _ _ => rfl, fun b o h => by
  unfold uc at h; split at h
  ·cases h
  ·exact h, fun b o h => ⟨a b o h, by unfold uc; rw [bD ⟨o, h⟩], .inr ⟨o, h⟩⟩, d⟩
theorem Eo {A B : List (Nat × Obj)} (h : ((A ++ B).map (·.1)).Nodup) {b : Nat} {o : Obj} (a : (b, o) ∈ B) : ¬ keys A b := by
 rintro ⟨g, d⟩
 rw [cL] at h
 exact (bY.1 h).2.2 b (bL.2 ⟨_, d, rfl⟩) b (bL.2 ⟨_, a, rfl⟩) rfl
theorem ST.back (h : ST dd F w W μ (L0 ++ L)) (j : tT dd L0 L1 W W') : ST dd F w W' (A8 μ W W' L1) (L1 ++ L) := by
 have hk : ∀ b, keys L0 b → b < W.heap.size ∧ μ b = none ∧ (w.heap.size ≤ b ∨ F b) := fun b ⟨o, d⟩ => by
  obtain ⟨h1, g, m⟩ := h.box b o (cJ _ d)
  exact ⟨nS h1, g, m⟩
 refine ⟨j.ex.os.trans h.os, j.ex.tape.trans h.tape, j.ex.output.trans h.output, tR.trans h.drawn j.ex.drawn, dT h.size j.ex.size, fun b i n => ?_, fun b o d => ?_, fun b o d => ?_, ?_⟩
 ·rw [j.ex.mo b (eF i h.size) (fun k => by
   rcases (hk b k).2.2 with h | h
   ·omega
   ·exact n h)]
  exact h.mo b i n
 ·unfold A8 at d
  split at d
  ·rename_i i
   rw [j.ex.mo b i (fun k => by rw [(hk b k).2.1] at d; cases d)]
   exact h.mem b o d
  ·split at d
   ·cases d
   ·exact d
 ·rcases aV.1 d with d | d
  ·obtain ⟨h1, g⟩ := j.held b o d
   refine ⟨h1, ?_, ?_⟩
   ·unfold A8
    split
    ·rename_i i
     rcases g with g | g
     ·omega
     ·exact (hk b g).2.1
    ·rw [bD ⟨o, d⟩]
   ·rcases g with g | g
    ·exact .inl (dT h.size g)
    ·exact (hk b g).2.2
  ·obtain ⟨h1, g, m⟩ := h.box b o (ez _ d)
   refine ⟨?_, ?_, m⟩
   ·rw [j.ex.mo b (nS h1) (Eo h.nd d)]; exact h1
   ·unfold A8; rw [bD (nS h1)]; exact g
 ·rw [cL]
  have q : (L.map (·.1)).Nodup := by have := h.nd; rw [cL] at this; exact (bY.1 this).2.1
  refine bY.2 ⟨j.nd, q, fun a ha c r e => ?_⟩
  subst e
  obtain ⟨⟨b, o⟩, d, rfl⟩ := bL.1 ha
  obtain ⟨⟨p, s⟩, l, e⟩ := bL.1 r
  simp at e; subst e
  have i := h.Gn (ez _ l)
  rcases (j.held p o d).2 with g | g
  ·omega
  ·exact Eo h.nd l g
theorem ST.IG (h : ST dd F w W μ L) (W' : World) (L1 : List (Nat × Obj)) : Lo F w μ (A8 μ W W' L1) := fun b a _ => bD (eF a h.size)
theorem ST.HS (h : ST dd F w W μ L) (W' : World) (L1 : List (Nat × Obj)) : kd μ (A8 μ W W' L1) := fun b o a => by
 unfold A8; rw [bD (h.Et a)]; exact a
theorem ST.kA (h : ST dd F w W μ L) (d : ∀ p, p ∈ L0 → p ∈ L) : kd μ (uc W L0) := fun b o a => by
 unfold uc
 rw [bI]
 ·exact h.mem b o a
 ·rintro ⟨i, g⟩
  rw [(h.box b i (d _ g)).2.1] at a
  cases a
theorem tT.Ie (h : Ex dd w W) (d : ∀ b o, (b, o) ∈ L1 → W.heap[b]? = some o ∧ w.heap.size ≤ b) (g : (L1.map (·.1)).Nodup) : tT dd [] L1 w W :=
 ⟨⟨h.os, h.tape, h.output, h.drawn, h.size, fun b a _ => h.mo b a⟩, fun b o a => ⟨(d b o a).1, .inl (d b o a).2⟩, g⟩
end
def lF (dd : Bool) (P : Program) (f : FuncId) (args : List Value) (w : World) (L0 : List (Nat × Obj)) (K : Value → List (Nat × Obj) → World → Prop) : Prop :=
 Calls P f args.toArray w fun e a => ∃ v L1, e = .returned v ∧ tT dd L0 L1 w a ∧ K v L1 a
def lz (dd : Bool) {α : Type} (P : Program) (f : FuncId) (args : List Value) (w : World) (e : TypeId) (enc : α → List Value) (k : Nat) (l : List α) : Prop :=
 lF dd P f args w [] fun v R _ => jT e enc k v l R
theorem tT.li {L0 L1 : List (Nat × Obj)} {w a : World} (h : tT true L0 L1 w a) : tT dd L0 L1 w a := ⟨⟨h.ex.os, h.ex.tape, h.ex.output, tR.of (h.ex.drawn rfl), h.ex.size, h.ex.mo⟩, h.held, h.nd⟩
theorem jS.li {P : Program} {f : FuncId} {args : List Value} {w : World} {v : Value} (h : jS true P f args w v) : jS dd P f args w v := dV h fun _ _ h => ⟨h.1, h.2.li⟩
theorem lF.li {P : Program} {f : FuncId} {args : List Value} {w : World} {L0 : List (Nat × Obj)} {K : Value → List (Nat × Obj) → World → Prop} (h : lF true P f args w L0 K) : lF dd P f args w L0 K := dV h fun _ _ ⟨v, L1, h1, a, b⟩ => ⟨v, L1, h1, a.li, b⟩
theorem lz.li {α : Type} {P : Program} {f : FuncId} {args : List Value} {w : World} {e : TypeId} {enc : α → List Value} {k : Nat} {l : List α} (h : lz true P f args w e enc k l) : lz dd P f args w e enc k l := lF.li h
section
variable {P : Program} {E : Nat → Value} {W : World} {d : Option Nat} {ty : TypeId} {pos : String} {af : Array Edge} {g : Option (Nat × Bool)}
 {F : Nat → Prop} {w : World} {μ : kl} {L : List (Nat × Obj)}
theorem Nx {K : Value → World → Prop} {K' : Value → List (Nat × Obj) → World → Prop} {f : FuncId} {fv : Operand} {ax : Array Operand} {ats : Array TypeId} {caps : Array Value} {args : List Value} (L0 L2 : List (Nat × Obj)) (a : ST dd F w W μ L) (b : L.Perm (L0 ++ L2)) (l : jG E fv = .func (.func f) #[] caps) (he : ∀ args w, (callFunc f args).run P w = .ok (.enter f args) w) (ha : ax.map (jG E) ++ caps = args.toArray) (k : lF dd P f args W L0 K') (h : ∀ W' v μ' L1, ST dd F w W' μ' (L1 ++ L2) → kd μ μ' → Lo F w μ μ' → K' v L1 W' → K v W') : nn P E ⟨d, .call ⟨.value fv, ax, ats⟩, ty, pos, af, g⟩ W K :=
 Ez l he ha (dV k (fun _ W' ⟨v, L1, h1, i, j⟩ => ⟨v, h1, h W' v _ L1 ((a.perm b).back i) ((a.perm b).HS W' L1) ((a.perm b).IG W' L1) j⟩))
theorem KL {K : Value → World → Prop} {α : Type} {e : TypeId} {enc : α → List Value} {k : Nat} {l : List α} {f : FuncId} {fv : Operand} {ax : Array Operand} {ats : Array TypeId} {caps : Array Value} {args : List Value} (X Y : List (Nat × Obj)) (a : ST dd F w W μ (X ++ Y)) (n : jG E fv = .func (.func f) #[] caps) (he : ∀ args w, (callFunc f args).run P w = .ok (.enter f args) w) (ha : ax.map (jG E) ++ caps = args.toArray) (m : lz dd P f args W e enc k l) (h : ∀ W' v μ' R, ST dd F w W' μ' (X ++ (R ++ Y)) → kd μ μ' → Lo F w μ μ' → jT e enc k v l R → K v W') : nn P E ⟨d, .call ⟨.value fv, ax, ats⟩, ty, pos, af, g⟩ W K :=
 Nx [] (X ++ Y) a (.refl _) n he ha m (fun W' v μ' L1 h1 b j i => h W' v μ' L1 (h1.perm (by rw [← aP, ← aP]; exact List.perm_append_comm.append_right Y)) b j i)
end
theorem ST.nx {w W : World} {μ : kl} {L R : List (Nat × Obj)} (h : ST dd ku w W μ L) (a : ∀ p, p ∈ R → p ∈ L) (g : (R.map (·.1)).Nodup) : tT dd [] R w W :=
 tT.Ie h.ex (fun b o d => ⟨(h.box b o (a _ d)).1, by
  rcases (h.box b o (a _ d)).2.2 with h | h
  ·exact h
  ·exact h.elim⟩) g
theorem mI {P : Program} {E : Nat → Value} {W : World} {d : Option Nat} {ty : TypeId} {pos : String} {af : Array Edge} {g : Option (Nat × Bool)} {α : Type} {e' : TypeId} {enc : α → List Value} {k : Nat} {v : Value} {l : List α} {R : List (Nat × Obj)} {x : Operand} {t e : TypeId} (a : P.underlying t = some (.slice e)) (b : jG E x = v) (h : jT e' enc k v l R) : lQ P E ⟨d, .call ⟨.builtin .len, #[x], #[t]⟩, ty, pos, af, g⟩ W (.int .i64 l.length) W := by
 obtain ⟨A, c, rfl⟩ := h.form
 exact Aq a b
section
variable {α : Type} {e : TypeId} {enc : α → List Value} {k : Nat} {v : Value} {l : List α} {R : List (Nat × Obj)}
theorem jT.nd (h : jT e enc k v l R) : (R.map (·.1)).Nodup := by
 rcases h with ⟨rfl, rfl, rfl⟩ | ⟨g, cap, cur, rfl, rfl, _⟩ <;> simp
end
end Go.Proofs.YtmlncblocfcmiaaGreat
namespace Go.Proofs.YtmlncblocfcmiaaGreat
open Go.RowKit
variable {dd : Bool}
def Ab (R : List (Nat × Obj)) (k : Nat) (p : Value) (i : Nat) : Prop := ∃ g o, R = [(g, o)] ∧ p = .pointer (some ⟨g, i * k, none⟩)
section
variable {P : Program} {E : Nat → Value} {W : World} {d : Option Nat} {ty : TypeId} {pos : String} {af : Array Edge} {g : Option (Nat × Bool)}
 {F : Nat → Prop} {w : World} {μ : kl} {L : List (Nat × Obj)} {α : Type} {e' : TypeId} {enc : α → List Value} {k : Nat} {v : Value} {l : List α} {R : List (Nat × Obj)}
theorem pe {t e : TypeId} {x b : Operand} {y : IntKind} {i : Int} {x0 : α} (s : P.underlying t = some (.slice e)) (he : ∀ w, (sizeOf e).run P w = .ok k w) (u : jG E x = v) (q : jG E b = .int y i) (h : jT e' enc k v l R) (m : 0 ≤ i) (r : l[i.toNat]? = some x0) :
  ∃ p, Ab R k p i.toNat ∧ ∀ W, lQ P E ⟨d, .indexAddr t x b, ty, pos, af, g⟩ W p W := by
 have a : i.toNat < l.length := (bK.1 r).1
 rcases h with ⟨rfl, rfl, rfl⟩ | ⟨j, cap, cur, rfl, rfl, h1, z, A, D⟩
 ·simp at a
 refine ⟨.pointer (some ⟨j, i.toNat * k, none⟩), ⟨_, _, rfl, rfl⟩, fun W => ?_⟩
 show (do pure (.value (← Instr.indexAt t (jG E x) (jG E b))) : Sem Next).run P W = _
 rw [u, q]
 have n : 0 ≤ i ∧ i < (l.length : Int) := ⟨m, by omega⟩
 simp [Instr.indexAt, asIntOf, bJ s, he W, n, dU]
theorem AO (h : jT e' enc k v l R) (hk : ∀ x, (enc x).length = k) {p : Value} {i : Nat} (hp : Ab R k p i) {x0 : α} (m : l[i]? = some x0) :
  ∃ g cur cap, R = [(g, .cells cur e' (0, 0))] ∧ v = .slice (some ⟨g, 0, none⟩) l.length cap ∧ l.length ≤ cap ∧ cap ≤ maxLen ∧ cur.size = cap * k ∧ cur.toList.take (l.length * k) = (l.map enc).flatten ∧ p = .pointer (some ⟨g, i * k, none⟩) ∧ ∀ j y, (enc x0)[j]? = some y → cur[i * k + j]? = some y := by
 have b : i < l.length := (bK.1 m).1
 rcases h with ⟨rfl, rfl, rfl⟩ | ⟨q, cap, cur, rfl, rfl, h1, r, s, d⟩
 ·simp at b
 obtain ⟨g2, o, n, rfl⟩ := hp
 cases n
 refine ⟨q, cur, cap, rfl, rfl, h1, r, s, d, rfl, fun j y t => ?_⟩
 have := wE hk l i x0 m j y t
 rw [← d] at this
 have a : i * k + j < l.length * k := by
  have := (bK.1 this).1
  simp at this; omega
 rw [dL a] at this
 simpa using this
theorem vl {A : List (Nat × Obj)} (hH : ny μ A W) (b : ∀ q, q ∈ R → q ∈ A) (h : jT e' enc k v l R) (hk : ∀ x, (enc x).length = k) {p : Value} {i : Nat} (hp : Ab R k p i) {x0 : α} (j : l[i]? = some x0) {t : TypeId} (d : ∀ w, (isAgg t).run P w = .ok true w) (g : ∀ w, (sizeOf t).run P w = .ok k w) : (Instr.loadAt t p).run P W = .ok (.agg (enc x0).toArray) W := by
 obtain ⟨m, cur, cap, rfl, rfl, _, _, _, _, rfl, a⟩ := AO h hk hp j
 exact BC d (enc x0) (by rw [hk]; exact g) (hH.2 _ _ (b _ (bX.2 rfl))) a
theorem CC {A : List (Nat × Obj)} (hH : ny μ A W) (b : ∀ q, q ∈ R → q ∈ A) (h : jT e' enc k v l R) (hk : ∀ x, (enc x).length = k) {p : Value} {i : Nat} (hp : Ab R k p i) {x0 : α} (g : l[i]? = some x0) {t : TypeId} {y : Value} (j : enc x0 = [y]) (d : ∀ w, (isAgg t).run P w = .ok false w) : (Instr.loadAt t p).run P W = .ok y W := by
 obtain ⟨m, cur, cap, rfl, rfl, _, _, _, _, rfl, a⟩ := AO h hk hp g
 exact BE d (hH.2 _ _ (b _ (bX.2 rfl))) (a 0 y (by rw [j]; rfl))
theorem FH (hk : ∀ x, (enc x).length = k) : ∀ (l : List α) (i : Nat) (y : α), i < l.length → ((l.set i y).map enc).flatten = (l.map enc).flatten.take (i * k) ++ enc y ++ (l.map enc).flatten.drop (i * k + k)
 | [], i, y, h => by simp at h
 | z :: l, 0, y, h => by
  simp [hk]
 | z :: l, i + 1, y, h => by
  have := FH hk l i y (by simpa using h)
  simp only [List.set_cons_succ, bP, bQ, this]
  have h1 : (i + 1) * k = (enc z).length + i * k := by rw [hk, cR]; omega
  rw [h1, fU, ev, iv]
  simp
theorem KY {K : Value → World → Prop} (X : List (Nat × Obj)) {Y : List (Nat × Obj)} {t : TypeId} {x y : Operand} {p u : Value} {i : Nat} {x0 x1 : α} (b : ST dd F w W μ (X ++ (R ++ Y))) (h : jT e' enc k v l R) (hk : ∀ x, (enc x).length = k) (h1 : ∀ x, ∀ u ∈ enc x, u.oneCell' = true) (Q : jG E x = p) (T : jG E y = u) (hu : u.cells = (enc x1).toArray) (hp : Ab R k p i) (A : l[i]? = some x0) (M : ∀ w, (sizeOf t).run P w = .ok k w) (L : ∀ W' R', ST dd F w W' μ (X ++ (R' ++ Y)) → jT e' enc k v (l.set i x1) R' → K undef W') : nn P E ⟨d, .store t x y, ty, pos, af, g⟩ W K := by
 have r : i < l.length := (bK.1 A).1
 obtain ⟨m, cur, cap, rfl, rfl, z, I, q, J, rfl, U⟩ := AO h hk hp A
 have hle : i * k + k ≤ cap * k := by
  have : (i + 1) * k ≤ cap * k := cO _ (by omega)
  rwa [cR, jf] at this
 have j : i * k + k ≤ l.length * k := by
  have : (i + 1) * k ≤ l.length * k := cO _ (by omega)
  rwa [cR, jf] at this
 have a : u.cells.size = k := by rw [hu]; simp [hk]
 have O := (b.box m (.cells cur e' (0, 0)) (by simp)).1
 have hlen : l.length * k ≤ cap * k := cO _ z
 refine .inr (.inl ⟨W.setRow m (cur.toList.take (i * k) ++ (enc x1) ++ cur.toList.drop (i * k + k)).toArray, ?_, L _ [(m, .cells (cur.toList.take (i * k) ++ (enc x1) ++ cur.toList.drop (i * k + k)).toArray e' (0, 0))] (b.store _) (.inr ⟨m, cap, _, by simp, rfl, by simpa using z, I, ?_, ?_⟩)⟩)
 ·show (do Instr.storeAt t (jG E x) (jG E y); pure .skip : Sem Next).run P W = _
  rw [Q, T]
  have := yZ P (off := i * k) u (by rw [a]; exact M) (by rw [hu]; simpa using h1 x1) O (by rw [a, q]; exact hle)
  simp only [cF, this, bT, dC, a]
  rw [hu]
 ·show ((cur.toList.take (i * k) ++ (enc x1) ++ cur.toList.drop (i * k + k)).toArray).size = _
  have n : cur.toList.length = cap * k := by simpa using q
  rw [ew, aF, aF, dF, gS, hk, n, dZ (by omega)]; omega
 ·rw [ie, FH hk l i x1 r, ← J]
  have D : (cur.toList.take (l.length * k)).take (i * k) = cur.toList.take (i * k) := by rw [gE]; congr 1; omega
  have G : (cur.toList.take (l.length * k)).drop (i * k + k) = (cur.toList.drop (i * k + k)).take (l.length * k - (i * k + k)) := by rw [iC]
  rw [D, G]
  show List.take (l.length * k) (cur.toList.take (i * k) ++ enc x1 ++ cur.toList.drop (i * k + k)) = _
  have n : cur.toList.length = cap * k := by simpa using q
  have s : (cur.toList.take (i * k) ++ enc x1).length = i * k + k := by rw [aF, dF, hk, n, dZ (by omega)]
  rw [fI, dW (by rw [s]; exact j), s]
theorem D5 (hk : ∀ x, (enc x).length = k) : ∀ (l : List α) (i : Nat), i ≤ l.length → ((l.take i).map enc).flatten = (l.map enc).flatten.take (i * k)
 | [], i, h => by simp
 | z :: l, 0, h => by simp
 | z :: l, i + 1, h => by
  have := D5 hk l i (by simpa using h)
  simp only [List.take_succ_cons, bP, bQ, this]
  rw [show (i + 1) * k = (enc z).length + i * k by rw [hk, cR]; omega, fU]
theorem D9 {t e : TypeId} {x ih : Operand} {D : IntKind} {i : Int} (m : P.underlying t = some (.slice e)) (he : ∀ w, (sizeOf e).run P w = .ok k w) (n : jG E x = v) (j : jG E ih = .int D i) (h : jT e' enc k v l R) (hk : ∀ x, (enc x).length = k) (r : 0 ≤ i) (A : i ≤ l.length) :
  ∃ p, jT e' enc k p (l.take i.toNat) R ∧ ∀ W, lQ P E ⟨d, .slice t x none (some ih) none, ty, pos, af, g⟩ W p W := by
 have a : i.toNat ≤ l.length := by omega
 rcases h with ⟨rfl, rfl, rfl⟩ | ⟨b, cap, cur, rfl, rfl, h1, s, u, y⟩
 ·have : i = 0 := by simp at A; omega
  subst this
  refine ⟨.slice none 0 0, .inl ⟨rfl, by simp, rfl⟩, fun W => ?_⟩
  show (do pure (.value (← Instr.sliceAt t (jG E x) none (some (jG E ih)) none)) : Sem Next).run P W = _
  rw [n, j]
  simp [Instr.sliceAt, Instr.slice, Instr.sliceBounds, Instr.sliceBound, asIntOf, bJ m, he W]
 ·refine ⟨.slice (some ⟨b, 0, none⟩) (l.take i.toNat).length cap, .inr ⟨b, cap, cur, rfl, rfl, by simp; omega, s, u, ?_⟩, fun W => ?_⟩
  ·have q : (l.take i.toNat).length = i.toNat := by rw [dF]; omega
   have hle : i.toNat * k ≤ l.length * k := cO _ a
   rw [q, D5 hk l i.toNat a, ← y, gE, dZ hle]
  ·show (do pure (.value (← Instr.sliceAt t (jG E x) none (some (jG E ih)) none)) : Sem Next).run P W = _
   rw [n, j]
   have z : 0 ≤ i ∧ i ≤ (cap : Int) := ⟨r, by omega⟩
   simp [Instr.sliceAt, Instr.slice, Instr.sliceBounds, Instr.sliceBound, asIntOf, bJ m, he W, z, dU]
   omega
theorem BL {u : pE α} {t e : TypeId} {x r : Operand} {Z : IntKind} {i : Int} (U : P.underlying t = some (.slice e)) (he : ∀ w, (sizeOf e).run P w = .ok k w) (n : jG E x = v) (M : jG E r = .int Z i) (h : Sl u k μ v l) (z : 0 ≤ i) (O : i ≤ l.length) :
  ∃ s, (Sl u k μ s (l.drop i.toNat) ∧ ∀ B, Fr B v → Fr B s) ∧ ∀ W, lQ P E ⟨d, .slice t x (some r) none none, ty, pos, af, g⟩ W s W := by
 obtain ⟨A, c, rfl, h2, h3, D⟩ := h
 have Q : i.toNat ≤ l.length := by omega
 refine ⟨.slice (if c = i.toNat then A else A.map (·.add (i.toNat * k))) (l.drop i.toNat).length (c - i.toNat), ⟨⟨_, _, rfl, by simp; omega, by omega, fun hp => ?_⟩, fun B L b m => ?_⟩, fun W => ?_⟩
 ·have R : i.toNat < l.length := by simp at hp; omega
  obtain ⟨b, off, cs, T, fr, rfl, F, G⟩ := D (by omega)
  refine ⟨b, off + i.toNat * k, cs, T, fr, ?_, F, fun j x n => ?_⟩
  ·rw [bI (by omega)]; simp [dU]
  ·rw [dM] at n
   obtain ⟨ys, I, J, p⟩ := G _ x n
   refine ⟨ys, I, J, fun q y Y => ?_⟩
   have := p q y Y
   rw [cR] at this
   rw [show off + i.toNat * k + j * k + q = off + (i.toNat * k + j * k) + q by omega]
   exact this
 ·refine L b ?_
  cases A with
  | none => simp [Value.ownBlock] at m
  | some a =>
   split at m
   ·exact m
   ·obtain ⟨b', o', s'⟩ := a
    cases s' <;> simp [Value.ownBlock, Addr.add] at m ⊢ <;> split at m <;> exact m
 ·show (do pure (.value (← Instr.sliceAt t (jG E x) (some (jG E r)) none none)) : Sem Next).run P W = _
  rw [n, M]
  have m : 0 ≤ i ∧ i ≤ (l.length : Int) := ⟨z, O⟩
  simp [Instr.sliceAt, Instr.slice, Instr.sliceBounds, Instr.sliceBound, asIntOf, bJ U, he W, m]
end
end Go.Proofs.YtmlncblocfcmiaaGreat
namespace Go.Proofs.YtmlncblocfcmiaaGreat
open Go.RowKit
variable {dd : Bool}
section
variable {α : Type} {e : TypeId} {enc : α → List Value} {k : Nat} {v : Value} {l : List α} {R : List (Nat × Obj)} {μ : kl}
theorem jT.one (h : jT e enc k v l R) : v.oneCell' = true := by obtain ⟨A, c, rfl⟩ := h.form; rfl
theorem Sl.one {a : pE α} (h : Sl a k μ v l) : v.oneCell' = true := by obtain ⟨A, c, rfl⟩ := h.form; rfl
theorem Sl.isNil {d : pE α} {n c : Nat} (h : Sl d k μ (.slice none n c) l) : l = [] := by
 obtain ⟨A, j, h1, m, p, g⟩ := h
 cases h1
 rcases eU l.length with a | a
 ·exact eG.1 a
 ·obtain ⟨b, off, cs, T, fr, i, _⟩ := g a
  cases i
theorem jT.isNil {n c : Nat} (h : jT e enc k (.slice none n c) l R) : l = [] := by
 rcases h with ⟨h1, rfl, rfl⟩ | ⟨g, cap, cur, h1, _⟩
 ·rfl
 ·cases h1
theorem ST.Q7 {w W : World} {μ : kl} {L1 L2 : List (Nat × Obj)} (h : ST dd ku w W μ (L1 ++ L2)) : tT dd [] L1 w W :=
 tT.Ie h.ex (fun b o a => ⟨(h.box b o (cJ _ a)).1, by
  rcases (h.box b o (cJ _ a)).2.2 with h | h
  ·exact h
  ·exact h.elim⟩) (by have := h.nd; rw [cL] at this; exact (bY.1 this).1)
theorem ST.QJ {w W : World} {μ : kl} {L0 L1 L2 : List (Nat × Obj)} (h : ST dd (keys L0) w W μ (L1 ++ L2)) : tT dd L0 L1 w W :=
 ⟨⟨h.os, h.tape, h.output, h.drawn, h.size, h.mo⟩, fun b o a => ⟨(h.box b o (cJ _ a)).1, (h.box b o (cJ _ a)).2.2⟩, by have := h.nd; rw [cL] at this; exact (bY.1 this).1⟩
end
end Go.Proofs.YtmlncblocfcmiaaGreat
namespace Go.Proofs.YtmlncblocfcmiaaGreat
open Go.RowKit
variable {dd : Bool}
def kV {κ β : Type} (beq : κ → κ → Bool) (l : List (κ × β)) (k : κ) : Option β := (l.find? (fun p => beq k p.1)).map (·.2)
def nU {κ β : Type} (beq : κ → κ → Bool) (l : List (κ × β)) (k : κ) (v : β) : List (κ × β) :=
 match l.findIdx? (fun p => beq k p.1) with
 | some i => l.set i (k, v)
 | none => l ++ [(k, v)]
structure uC {κ β : Type} (kenc : κ → Value) (vf : β → Value) (l : List (κ × β)) (es : Array MapEntry) (clock : Nat) : Prop where
 EB : es.toList.map (fun e => (e.key, e.val)) = l.map (fun p => (kenc p.1, vf p.2))
 born : es.toList.Pairwise (fun a b => a.born < b.born)
 lt : ∀ e ∈ es.toList, e.born < clock
def lL {κ β : Type} (kenc : κ → Value) (vf : β → Value) (v : Value) (l : List (κ × β)) (R : List (Nat × Obj)) : Prop :=
 ∃ m es clock, v = .map (some m) ∧ R = [(m, .map es clock)] ∧ uC kenc vf l es clock
def vZ {κ β : Type} (kenc : κ → Value) (vf : β → Value) (μ : kl) (v : Value) (l : List (κ × β)) : Prop :=
 (v = .map none ∧ l = []) ∨ ∃ m es clock, v = .map (some m) ∧ μ m = some (.map es clock) ∧ uC kenc vf l es clock
theorem vZ.mono {κ β : Type} {kenc : κ → Value} {vf : β → Value} {μ μ' : kl} {v : Value} {l : List (κ × β)} (h : vZ kenc vf μ v l) (d : kd μ μ') : vZ kenc vf μ' v l := by
 rcases h with h | ⟨m, es, clock, h1, a, b⟩
 ·exact .inl h
 ·exact .inr ⟨m, es, clock, h1, d _ _ a, b⟩
theorem lL.at {κ β : Type} {kenc : κ → Value} {vf : β → Value} {μ : kl} {v : Value} {l : List (κ × β)} {R : List (Nat × Obj)} (h : lL kenc vf v l R) (d : ∀ b o, (b, o) ∈ R → μ b = some o) : vZ kenc vf μ v l := by
 obtain ⟨m, es, clock, rfl, rfl, a⟩ := h
 exact .inr ⟨m, es, clock, rfl, d _ _ (bX.2 rfl), a⟩
structure pk {κ : Type} (P : Program) (kt : TypeId) (kenc : κ → Value) (beq : κ → κ → Bool) : Prop where
 check : ∀ b k W, (Instr.checkKey b 10000 kt (kenc k)).run P W = .ok () W
 find : ∀ (k : κ) (l : List κ) (es : List MapEntry), es.map (·.key) = l.map kenc → ∀ W, (Instr.findKey kt (kenc k) es).run P W = .ok ((l.findIdx? (fun x => beq k x)).bind fun i => (es[i]?).map fun e => (i, e.val)) W
 eq : ∀ k x, beq k x = true → kenc x = kenc k
 bits : ∀ k, Instr.sameBits 10000 (kenc k) (kenc k) = true
section
variable {P : Program} {W : World} {κ : Type} {kt : TypeId} {kenc : κ → Value} {beq : κ → κ → Bool}
theorem BR (a : ∀ x y W, (Op.equal kt (kenc x) (kenc y)).run P W = .ok (beq x y) W) (k : κ) : ∀ (l : List κ) (es : List MapEntry) (i : Nat), es.map (·.key) = l.map kenc →
  (Instr.findAsking kt (kenc k) es i).run P W = .ok ((l.findIdx? (fun x => beq k x)).bind fun j => (es[j]?).map fun e => (i + j, e.val)) W
 | [], [], i, h => by simp [Instr.findAsking]
 | [], _ :: _, i, h => by simp at h
 | _ :: _, [], i, h => by simp at h
 | x :: l, e :: es, i, h => by
  simp only [bP, bA] at h
  obtain ⟨h1, b⟩ := h
  simp only [Instr.findAsking, cF, h1, a, bT, fl]
  cases d : beq k x with
  | true => simp
  | false =>
   simp only [aC, aK]
   rw [BR a k l es (i + 1) b]
   cases l.findIdx? (fun x => beq k x) with
   | none => rfl
   | some j => simp [ev, Nat.add_comm 1 j]
theorem JR {kind : TypeDesc} (hk : ∀ a b, Instr.sameNow kind (.agg a) b = none) (a : Array Value) : ∀ (es : List MapEntry) (i : Nat), Instr.findNow kind (.agg a) es i = if es = [] then some none else none
 | [], i => by simp [Instr.findNow]
 | e :: es, i => by simp [Instr.findNow, hk]
theorem pk.struct {enc : κ → List Value} {fs : Array Field} (p : P.underlying kt = some (.struct fs)) (n : ∀ d x y W, (Op.equalIn (d + 10) kt (.agg (enc x).toArray) (.agg (enc y).toArray)).run P W = .ok (beq x y) W) (m : ∀ b k W, (Instr.checkKey b 10000 kt (.agg (enc k).toArray)).run P W = .ok () W) (he : ∀ k x, beq k x = true → x = k) (j : ∀ k, Instr.sameBits 10000 (.agg (enc k).toArray) (.agg (enc k).toArray) = true) : pk P kt (fun x => .agg (enc x).toArray) beq where
 check := m
 find := fun k l es h W => by
  have g : ∀ x y W, (Op.equal kt (.agg (enc x).toArray) (.agg (enc y).toArray)).run P W = .ok (beq x y) W := fun x y W => n 9990 x y W
  simp only [Instr.findKey, cF, bJ p, bT]
  rw [JR (fun a b => by cases b <;> rfl)]
  by_cases i : es = []
  ·subst i
   have : l = [] := by simpa using h.symm
   subst this
   simp
  ·rw [bI i]
   dsimp only
   rw [show Instr.findAsking kt (.agg (enc k).toArray) es = Instr.findAsking kt (.agg (enc k).toArray) es 0 from rfl, BR g k l es 0 h]
   simp
 eq := fun k x h => by rw [he k x h]
 bits := j
theorem lZ {a b : ByteArray} : kQ a b = true ↔ a = b := by
 unfold kQ
 rw [fF, fF]
 constructor
 ·intro h
  have h1 : a.data.toList = b.data.toList := by simpa using h
  exact iN (Array.toList_inj.1 h1)
 ·rintro rfl
  simp
theorem Ed (a b : ByteArray) : (a == b) = kQ a b := by
 rw [bU, lZ]
 constructor
 ·intro h
  have h1 : (a.data == b.data) = true := h
  exact iN (by simpa using h1)
 ·rintro rfl
  show (a.data == a.data) = true
  simp
theorem BT (k : ByteArray) : ∀ (l : List ByteArray) (es : List MapEntry) (i : Nat), es.map (·.key) = l.map Value.string →
  Instr.findNow .string (.string k) es i = some ((l.findIdx? (fun x => kQ k x)).bind fun j => (es[j]?).map fun e => (i + j, e.val))
 | [], [], i, h => by simp [Instr.findNow]
 | [], _ :: _, i, h => by simp at h
 | _ :: _, [], i, h => by simp at h
 | x :: l, e :: es, i, h => by
  simp only [bP, bA] at h
  obtain ⟨h1, a⟩ := h
  simp only [Instr.findNow, h1, Instr.sameNow, Ed, fl]
  cases b : kQ k x with
  | true => simp
  | false =>
   simp only [aC, aK]
   rw [BT k l es (i + 1) a]
   cases l.findIdx? (fun x => kQ k x) with
   | none => rfl
   | some j => simp [ev, Nat.add_comm 1 j]
theorem yp (a : P.underlying kt = some .string) (n : Nat) (b : Bool) (k : ByteArray) (W : World) : (Instr.checkKey b (n + 1) kt (.string k)).run P W = .ok () W := by
 simp [Instr.checkKey, bJ a]
theorem pk.string (a : P.underlying kt = some .string) : pk P kt Value.string kQ where
 check := fun b k W => yp a 9999 b k W
 find := fun k l es h W => by
  simp only [Instr.findKey, cF, bJ a, bT]
  have := BT k l es 0 h
  rw [this]
  simp
 eq := fun k x h => by rw [lZ.1 h]
 bits := fun k => by simp only [Instr.sameBits]; rw [Ed]; exact lZ.2 rfl
variable {β : Type} {vf : β → Value} {E : Nat → Value} {d : Option Nat} {ty : TypeId} {pos : String} {af : Array Edge} {g : Option (Nat × Bool)} {F : Nat → Prop} {w : World} {μ : kl} {L : List (Nat × Obj)}
theorem uC.keys {l : List (κ × β)} {es : Array MapEntry} {clock : Nat} (h : uC kenc vf l es clock) : es.toList.map (·.key) = (l.map (·.1)).map kenc := by
 have := bN (List.map Prod.fst) h.EB
 simpa [fV] using this
theorem uC.length {l : List (κ × β)} {es : Array MapEntry} {clock : Nat} (h : uC kenc vf l es clock) : es.size = l.length := by
 have := bN List.length h.EB
 simpa using this
theorem uC.get {l : List (κ × β)} {es : Array MapEntry} {clock : Nat} (h : uC kenc vf l es clock) (k : κ) :
  (((l.map (·.1)).findIdx? (fun x => beq k x)).bind fun i => (es.toList[i]?).map fun e => (i, e.val)) = (l.findIdx? (fun p => beq k p.1)).bind fun i => (l[i]?).map fun p => (i, vf p.2) := by
 rw [gF]
 show ((l.findIdx? (fun p => beq k p.1)).bind _) = _
 congr 1
 funext i
 have := bN (fun q => q[i]?) h.EB
 simp only [fw] at this
 cases h1 : es.toList[i]? with
 | none => rw [h1] at this; cases a : l[i]? with
  | none => rfl
  | some p => rw [a] at this; cases this
 | some e => rw [h1] at this; cases a : l[i]? with
  | none => rw [a] at this; cases this
  | some p => rw [a] at this; simp at this; simp [this.2]
theorem xR (l : List (κ × β)) (k : κ) : kV beq l k = (l.findIdx? (fun p => beq k p.1)).bind fun i => (l[i]?).map (·.2) := by
 induction l with
 | nil => rfl
 | cons p l ih =>
  simp only [kV, fP, fl] at ih ⊢
  cases beq k p.1 with
  | true => rfl
  | false =>
   simp only [aC, aK]
   rw [ih]
   cases l.findIdx? (fun p => beq k p.1) <;> simp
theorem Jg {t e : TypeId} {m x : Operand} {s z : Value} {l : List (κ × β)} {k : κ} (K : pk P kt kenc beq) (q : P.underlying t = some (.map kt e)) (b : ∀ w, (zeroValue e).run P w = .ok z w) (hm : jG E m = s) (A : jG E x = kenc k) (v : vZ kenc vf (hp W) s l) :
  lQ P E ⟨d, .lookup t m x false, ty, pos, af, g⟩ W (((kV beq l k).map vf).getD z) W := by
 show (do pure (.value (← Instr.lookup t (jG E m) (jG E x) false)) : Sem Next).run P W = _
 rw [hm, A]
 rcases v with ⟨rfl, rfl⟩ | ⟨r, es, clock, rfl, y, h⟩
 ·have := K.find k [] [] rfl W
  simp [Instr.lookup, bJ q, K.check, this, b W, kV]
 ·have a : W.heap[r]? = some (.map es clock) := y
  have u : (getObj r : Sem Obj).run P W = .ok (.map es clock) W := by simp [getObj, Sem.run, a]
  have j := K.find k _ _ h.keys W
  rw [h.get k] at j
  simp only [Instr.lookup, cF, bJ q, bT, u, dC, K.check, j, xR]
  cases D : l.findIdx? (fun p => beq k p.1) with
  | none => simp [b W]
  | some i =>
   cases n : l[i]? with
   | none => simp [n, b W]
   | some p => simp [n]
theorem rG {l : List (κ × β)} {k : κ} {i : Nat} (h : l.findIdx? (fun p => beq k p.1) = some i) : ∃ p, l[i]? = some p ∧ beq k p.1 = true := by
 rw [eK] at h
 obtain ⟨h1, a, _⟩ := h
 exact ⟨l[i], cN h1, a⟩
theorem uC.put {l : List (κ × β)} {es : Array MapEntry} {clock : Nat} (h : uC kenc vf l es clock) (k : κ) (v : β) :
  match l.findIdx? (fun p => beq k p.1) with
  | some i => uC kenc vf (l.set i (k, v)) (es.modify i fun e => { e with key := kenc k, val := vf v }) clock
  | none => uC kenc vf (l ++ [(k, v)]) (es.push { key := kenc k, val := vf v, born := clock }) (clock + 1) := by
 cases s : l.findIdx? (fun p => beq k p.1) with
 | none =>
  refine ⟨?_, ?_, ?_⟩
  ·simp [h.EB]
  ·simp only [Array.toList_push, cV]
   exact ⟨h.born, by simp, fun a ha b r => by simp at r; subst r; exact h.lt a ha⟩
  ·intro e he
   simp at he
   rcases he with he | rfl
   ·exact Nat.lt_succ_of_lt (h.lt e (by simpa using he))
   ·exact bE _
 | some i =>
  obtain ⟨p, hp, _⟩ := rG s
  have w : i < l.length := (bK.1 hp).1
  have d : (es.modify i fun e => { e with key := kenc k, val := vf v }).toList.map (·.born) = es.toList.map (·.born) := by
   apply eO
   intro j
   simp only [fw, ek, ey]
   split
   ·cases es[j]? <;> simp
   ·rfl
  refine ⟨?_, ?_, ?_⟩
  ·apply eO
   intro j
   have m := bN (fun q => q[j]?) h.EB
   simp only [fw, ek] at m
   simp only [fw, ek, ey, fu]
   by_cases g : i = j
   ·subst g
    simp only [aT]
    rw [bD w]
    cases t : es[i]? with
    | none => rw [t, hp] at m; cases m
    | some e => rfl
   ·rw [bI g, bI g]; exact m
  ·have := h.born
   rw [← fW (f := fun e : MapEntry => e.born) (R := (· < ·))] at this ⊢
   rw [d]; exact this
  ·intro e he
   have : e.born ∈ es.toList.map (·.born) := by rw [← d]; exact bL.2 ⟨e, he, rfl⟩
   obtain ⟨e', n, u⟩ := bL.1 this
   rw [← u]; exact h.lt e' n
theorem yw {W : World} {r : Nat} {es : Array MapEntry} {c : Nat} (b : W.heap[r]? = some (.map es c)) (a : Obj) : (setObj r a).run P W = .ok () (ChangeMaps.setBlock W r a) := by
 simp [setObj, Sem.run, b, ChangeMaps.setBlock]
theorem ST.setBlock {A B : List (Nat × Obj)} {b : Nat} {o : Obj} (h : ST dd F w W μ (A ++ (b, o) :: B)) (d : Obj) : ST dd F w (ChangeMaps.setBlock W b d) μ (A ++ (b, d) :: B) := by
 have g := (h.box b o (by simp)).1
 have a := nS g
 refine h.put ⟨rfl, rfl, rfl, aY _, by simp [ChangeMaps.setBlock]⟩ (fun k hk => ?_) ?_
 ·simp only [ChangeMaps.setBlock]
  rw [Array.getElem?_setIfInBounds_ne (fun e => hk e.symm)]
 ·simp only [ChangeMaps.setBlock]
  rw [Array.getElem?_setIfInBounds_self_of_lt a]
theorem BF {I : Value → World → Prop} (X : List (Nat × Obj)) {Y R : List (Nat × Obj)} {t e : TypeId} {m x y : Operand} {G : Value} {l : List (κ × β)} {k : κ} {v : β} (K : pk P kt kenc beq) (M : P.underlying t = some (.map kt e)) (n : ST dd F w W μ (X ++ (R ++ Y))) (h : lL kenc vf G l R) (hm : jG E m = G) (Q : jG E x = kenc k) (T : jG E y = vf v) (L : ∀ W' R', ST dd F w W' μ (X ++ (R' ++ Y)) → lL kenc vf G (nU beq l k v) R' → I undef W') : nn P E ⟨d, .mapUpdate t m x y, ty, pos, af, g⟩ W I := by
 obtain ⟨b, es, clock, rfl, rfl, z⟩ := h
 have A : W.heap[b]? = some (.map es clock) := (n.box b (.map es clock) (by simp)).1
 have J : (getObj b : Sem Obj).run P W = .ok (.map es clock) W := by simp [getObj, Sem.run, A]
 have r := K.find k _ _ z.keys W
 rw [z.get k] at r
 have a := z.put (beq := beq) k v
 have j : ∀ W', (Instr.mapUpdate t (.map (some b)) (kenc k) (vf v)).run P W = .ok () W' → (execOp (jG E) ⟨d, .mapUpdate t m x y, ty, pos, af, g⟩).run P W = .ok .skip W' := by
  intro W' O
  show (do Instr.mapUpdate t (jG E m) (jG E x) (jG E y); pure .skip : Sem Next).run P W = _
  rw [hm, Q, T]
  simp [O]
 cases s : l.findIdx? (fun p => beq k p.1) with
 | none =>
  rw [s] at r a
  refine .inr (.inl ⟨ChangeMaps.setBlock W b (.map (es.push { key := kenc k, val := vf v, born := clock }) (clock + 1)), j _ ?_, L _ [(b, _)] (n.setBlock _) ⟨b, _, _, rfl, rfl, ?_⟩⟩)
  ·simp [Instr.mapUpdate, bJ M, J, K.check, r, yw A]
  ·rw [nU, s]; exact a
 | some i =>
  obtain ⟨p, hp, D⟩ := rG s
  rw [s] at r a
  simp only [aA, hp, eE] at r
  have u : ((es[i]?).map (·.key)).getD (kenc k) = kenc k := by
   have := bN (fun q => q[i]?) z.keys
   simp only [fw, hp, eE, ek] at this
   rw [this]
   simp [K.eq k p.1 D]
  refine .inr (.inl ⟨ChangeMaps.setBlock W b (.map (es.modify i fun e => { e with key := kenc k, val := vf v }) clock), j _ ?_, L _ [(b, _)] (n.setBlock _) ⟨b, _, _, rfl, rfl, ?_⟩⟩)
  ·simp only [Instr.mapUpdate, cF, bJ M, J, K.check, r, bT, u, Instr.keyThatStays, K.bits, aT, dC]
   exact yw A _
  ·rw [nU, s]; exact a
theorem Hz {b : Value → World → Prop} {t : TypeId} (kenc : κ → Value) (vf : β → Value) (a : ST dd F w W μ L) (h : ∀ W' v R, ST dd F w W' μ (R ++ L) → lL kenc vf v [] R → b v W') : nn P E ⟨d, .makeMap t none, ty, pos, af, g⟩ W b :=
 .inl ⟨.map (some W.heap.size), W.alloc (.map #[] 0), by
   show (do pure (.value (← Instr.makeMap t none)) : Sem Next).run P W = _
   simp [Instr.makeMap, newObj, Sem.run], h _ _ [(W.heap.size, .map #[] 0)] (a.alloc _) ⟨_, _, _, rfl, rfl, ⟨rfl, by simp, by simp⟩⟩⟩
end
end Go.Proofs.YtmlncblocfcmiaaGreat
namespace Go.Proofs.YtmlncblocfcmiaaGreat
open Go.RowKit
variable {dd : Bool}
open Classical in
noncomputable def Ea {α β : Type} (l : List α) (f : List α → Option β) : Option β :=
 if h : ∃ r, ∀ o, o.Perm l → f o = some r then some h.choose else none
theorem FJ {α β : Type} {l : List α} {f : List α → Option β} {r : β} (h : ∀ o, o.Perm l → f o = some r) : Ea l f = some r := by
 have a : ∃ r, ∀ o, o.Perm l → f o = some r := ⟨r, h⟩
 unfold Ea
 rw [dif_pos a]
 have h1 := a.choose_spec l (.refl l)
 rw [h l (.refl l)] at h1
 exact h1.symm
end Go.Proofs.YtmlncblocfcmiaaGreat
namespace Go.Proofs.YtmlncblocfcmiaaGreat
open Go.RowKit
variable {dd : Bool}
def Rz {α β : Type} (P : Program) (fv : Value) (μ : kl) (a : α → List Value) (b : β → Value) (pm : α → Option β) : Prop :=
 ∃ f caps, fv = .func (.func f) #[] caps ∧ (∀ args w, (callFunc f args).run P w = .ok (.enter f args) w) ∧ ∀ W x r, kd μ (hp W) → pm x = some r → jS true P f (a x ++ caps.toList) W (b r)
def zT {α β : Type} (P : Program) (fv : Value) (μ : kl) (a : α → List Value) (b : β → Value) (pm : α → Option β) : Prop :=
 ∃ f first caps, fv = .func (.func f) first caps ∧ (∀ args w, (callFunc f args).run P w = .ok (.enter f args) w) ∧ ∀ W x r, kd μ (hp W) → pm x = some r → jS false P f (first.toList ++ (a x ++ caps.toList)) W (b r)
theorem zT.form {α β : Type} {P : Program} {fv : Value} {μ : kl} {d : α → List Value} {g : β → Value} {pm : α → Option β} (h : zT P fv μ d g pm) : ∃ f a b, fv = .func f a b := let ⟨f, a, b, h, _⟩ := h; ⟨_, a, b, h⟩
section
variable {P : Program} {W : World} {E : Nat → Value} {d : Option Nat} {ty : TypeId} {pos : String} {af : Array Edge} {g : Option (Nat × Bool)} {F : Nat → Prop} {w : World} {μ μ0 : kl} {L : List (Nat × Obj)}
theorem zT.mono {α β : Type} {fv : Value} {a : α → List Value} {b : β → Value} {pm : α → Option β} (h : zT P fv μ a b pm) (i : kd μ μ0) : zT P fv μ0 a b pm := by
 obtain ⟨f, first, caps, h1, d, g⟩ := h
 exact ⟨f, first, caps, h1, d, fun W x r h => g W x r (i.trans h)⟩
theorem N1 {α β : Type} {K : Value → World → Prop} {fv : Value} {b : α → List Value} {k : β → Value} {pm : α → Option β} {i : Operand} {ax : Array Operand} {ats : Array TypeId} (x : α) {r : β} (a : ST false F w W μ L) (q : zT P fv μ0 b k pm) (t : kd μ0 μ) (s : jG E i = fv) (ha : ax.map (jG E) ++ (#[] : Array Value) = (b x).toArray) (hm : pm x = some r) (h : ∀ W', ST false F w W' μ L → K (k r) W') : nn P E ⟨d, .call ⟨.value i, ax, ats⟩, ty, pos, af, g⟩ W K := by
 obtain ⟨f, first, caps, rfl, l, m⟩ := q
 have j : ax.map (jG E) = (b x).toArray := by simpa using ha
 refine .inr (.inr ⟨f, (first.toList ++ (b x ++ caps.toList)).toArray, ?_, dV (m W x r (t.trans a.jD) hm) (fun _ _ ⟨n, p⟩ => ⟨_, n, h _ (a.Ic p)⟩)⟩)
 show (do let d ← resolve (jG E) ⟨.value i, ax, ats⟩ ty; invoke d.target d.args : Sem Next).run P W = _
 simp only [resolve, s, Deferred.ofValue, cF, dC, bT, invoke, j, l]
 congr 2
 simp
end
end Go.Proofs.YtmlncblocfcmiaaGreat
namespace Go.Proofs.YtmlncblocfcmiaaGreat
open Go.RowKit
variable {dd : Bool}
def zV (A : List (Nat × Obj)) : kl := fun b => (A.find? (fun p => p.1 == b)).map (·.2)
theorem lP {A : List (Nat × Obj)} {W : World} (h : ∀ b o, (b, o) ∈ A → W.heap[b]? = some o) : ∀ b o, zV A b = some o → W.heap[b]? = some o := fun b o a => by
 unfold zV at a
 cases d : A.find? (fun p => p.1 == b) with
 | none => rw [d] at a; cases a
 | some p =>
  rw [d] at a
  cases a
  have h1 := List.mem_of_find?_eq_some d
  have g := List.find?_some d
  simp at g
  subst g
  exact h _ _ h1
theorem At.of {M : kl} {b : Nat} {cs : Array Value} {T : TypeId} {fr : Nat × Nat} (h : M b = some (.cells cs T fr)) (ys : List Value) (d : cs.toList = ys) : At M (.pointer (some ⟨b, 0, none⟩)) ys :=
 ⟨b, 0, cs, T, fr, rfl, h, fun j y a => by subst d; simpa using a⟩
section
variable {F : Nat → Prop} {w W W' : World} {μ μ' : kl} {L L0 L1 L2 : List (Nat × Obj)}
theorem ST.J0 (h : ST dd F w W μ L) (a : L.Perm (L0 ++ L2)) : ∀ b o, (b, o) ∈ L2 → uc W L0 b = some o := fun b o d => by
 have h1 := (h.perm a).at_ (ez _ d)
 unfold uc
 rw [bI (Eo (h.perm a).nd d)]
 exact h1
theorem ST.held (h : ST dd F w W μ L) (a : L.Perm (L0 ++ L2)) : Ei L0 W := fun b o d => ((h.perm a).box b o (cJ _ d)).1
theorem ST.P3 (h : ST dd F w W μ L) (a : L.Perm (L0 ++ L2)) : (L0.map (·.1)).Nodup := by
 have := (h.perm a).nd
 rw [cL] at this
 exact (bY.1 this).1
theorem ST.Qv (h : ST dd F w W μ L) (a : L.Perm (L0 ++ L2)) : kd μ (uc W L0) := (h.perm a).kA (fun _ hp => cJ _ hp)
end
section
variable {P : Program} {E : Nat → Value} {W : World} {d : Option Nat} {ty : TypeId} {pos : String} {af : Array Edge} {g : Option (Nat × Bool)}
 {F : Nat → Prop} {w : World} {μ : kl} {L : List (Nat × Obj)}
theorem Pa {K : Value → World → Prop} {K' : Value → List (Nat × Obj) → World → Prop} {f : FuncId} {fv : Operand} {ax : Array Operand} {ats : Array TypeId} {caps : Array Value} {args : List Value} (L0 L2 : List (Nat × Obj)) (a : ST dd F w W μ L) (i : L.Perm (L0 ++ L2)) (n : jG E fv = .func (.func f) #[] caps) (he : ∀ args w, (callFunc f args).run P w = .ok (.enter f args) w) (ha : ax.map (jG E) ++ (#[] : Array Value) = args.toArray) (m : Ei L0 W → (L0.map (·.1)).Nodup → kd μ (uc W L0) → (∀ b o, (b, o) ∈ L2 → uc W L0 b = some o) → lF dd P f (args ++ caps.toList) W L0 K') (h : ∀ W' v μ' L1, ST dd F w W' μ' (L1 ++ L2) → kd μ μ' → Lo F w μ μ' → (∀ b, W.heap.size ≤ b → ∀ o, uc W' L1 b = some o → μ' b = some o) → K' v L1 W' → K v W') : nn P E ⟨d, .call ⟨.value fv, ax, ats⟩, ty, pos, af, g⟩ W K := by
 have j : ax.map (jG E) = args.toArray := by simpa using ha
 refine Ez (args := (args ++ caps.toList).toArray) n he (by rw [j]; simp) (dV (m (a.held i) (a.P3 i) (a.Qv i) (a.J0 i)) (fun _ W' ⟨v, L1, h1, k, l⟩ => ⟨v, h1, h W' v _ L1 ((a.perm i).back k) ((a.perm i).HS W' L1) ((a.perm i).IG W' L1) ?_ l⟩))
 intro b q o p
 unfold A8
 rw [bI (by omega)]
 exact p
theorem Sl.lift {α : Type} {enc : α → List Value} {k : Nat} {M μ' : kl} {B : Nat} {v : Value} {l : List α} (h : Sl (Pl enc) k M v l) (p : Fr B v) (n : ∀ b, B ≤ b → ∀ o, M b = some o → μ' b = some o) : Sl (Pl enc) k μ' v l := by
 obtain ⟨A, c, h1, d, g, i⟩ := h
 refine ⟨A, c, h1, d, g, fun q => ?_⟩
 obtain ⟨b, off, cs, T, fr, a, j, m⟩ := i q
 exact ⟨b, off, cs, T, fr, a, n b (p b (by rw [h1, a]; rfl)) _ j, m⟩
theorem Ff {t : TypeId} (dd : Nat) {s u : Array TypeId} {b : Bool} (d : P.underlying t = some (.func s u b)) (f : Fn) (a c : Array Value) (W : World) : (Op.equalIn (dd + 1) t (.func f a c) .nilFunc).run P W = .ok false W := by
 simp [Op.equalIn, bJ d]
end
def zc {κ β : Type} (beq : κ → κ → Bool) (l : List (κ × β)) (k : κ) (z : β) : β := (kV beq l k).getD z
section
variable {P : Program} {W : World} {κ β : Type} {kt : TypeId} {kenc : κ → Value} {beq : κ → κ → Bool} {vf : β → Value} {E : Nat → Value} {d : Option Nat} {ty : TypeId} {pos : String} {af : Array Edge} {g : Option (Nat × Bool)} {F : Nat → Prop} {w : World} {μ : kl} {L R : List (Nat × Obj)} {v : Value} {left : List (κ × β)}
theorem zx {t e : TypeId} {m x : Operand} {a : Value} {l : List (κ × β)} {k : κ} {z : β} (K : pk P kt kenc beq) (i : P.underlying t = some (.map kt e)) (n : ∀ w, (zeroValue e).run P w = .ok (vf z) w) (hm : jG E m = a) (j : jG E x = kenc k) (b : vZ kenc vf (hp W) a l) :
  lQ P E ⟨d, .lookup t m x false, ty, pos, af, g⟩ W (vf (zc beq l k z)) W := by
 have := Jg (d := d) (ty := ty) (pos := pos) (af := af) (g := g) K i n hm j b
 rw [zc]
 cases h : kV beq l k with
 | none => rw [h] at this; exact this
 | some y => rw [h] at this; exact this
theorem lL.one {a : Value} {l : List (κ × β)} (h : lL kenc vf a l R) : a.oneCell' = true := by obtain ⟨m, es, clock, rfl, _⟩ := h; rfl
theorem lL.form {a : Value} {l : List (κ × β)} (h : lL kenc vf a l R) : ∃ m, a = .map (some m) := by obtain ⟨m, es, clock, rfl, _⟩ := h; exact ⟨m, rfl⟩
theorem lL.nd {a : Value} {l : List (κ × β)} (h : lL kenc vf a l R) : (R.map (·.1)).Nodup := by obtain ⟨m, es, clock, rfl, rfl, _⟩ := h; simp
end
def oz {α : Type} (l : List α) (i : Nat) (z : α) : List α := l.take i ++ List.replicate (l.length - i) z
theorem vw {α : Type} (l : List α) (i : Nat) (z : α) (h : i ≤ l.length) : (oz l i z).length = l.length := by simp [oz]; omega
theorem E3 {α : Type} (l : List α) (i : Nat) (z : α) (h : i ≤ l.length) : (oz l i z).take i = l.take i := by
 simp only [oz]
 rw [fI, dW (by simp; omega)]
 simp; omega
end Go.Proofs.YtmlncblocfcmiaaGreat
namespace Go.Proofs.YtmlncblocfcmiaaGreat
open Go.RowKit
theorem HG {P : Program} {cs : Array Value} {b : Bool} {n : Nat} {W : World} : ∀ (l : List Field),
  (∀ f ∈ l, f.name ≠ "_" → ∃ v, (part f.type cs f.offset).run P W = .ok v W ∧ (Instr.checkKey b n f.type v).run P W = .ok () W) →
  ((forIn l PUnit.unit fun f (_ : PUnit) => do
   if f.name ≠ "_" then Instr.checkKey b n f.type (← part f.type cs f.offset)
   pure (ForInStep.yield PUnit.unit)) : Sem PUnit).run P W = .ok PUnit.unit W
 | [], _ => by simp
 | f :: l, h => by
  have ih := HG l (fun f g => h f (fz _ g))
  simp only [List.forIn_cons, cF]
  by_cases a : f.name ≠ "_"
  ·obtain ⟨v, h1, d⟩ := h f (by simp) a
   simp only [bD a, cF, h1, bT, d, dC]
   exact ih
  ·simp only [bI a, cF, dC, bT]
   exact ih
theorem Gj {P : Program} {kt : TypeId} {fs : Array Field} {l : List Field} {cs : Array Value} {b : Bool} {n : Nat} {W : World} (d : P.underlying kt = some (.struct fs)) (a : fs.toList = l) (h : ∀ f ∈ l, f.name ≠ "_" → ∃ v, (part f.type cs f.offset).run P W = .ok v W ∧ (Instr.checkKey b n f.type v).run P W = .ok () W) : (Instr.checkKey b (n + 1) kt (.agg cs)).run P W = .ok () W := by
 obtain ⟨fs⟩ := fs
 subst a
 simp only [Instr.checkKey, cF, bJ d, bT, List.forIn_toArray]
 have := HG (P := P) (cs := cs) (b := b) (n := n) (W := W) fs h
 simp only [cF] at this
 first | rw [this]; rfl | simpa using this
end Go.Proofs.YtmlncblocfcmiaaGreat
namespace Go.Proofs.YtmlncblocfcmiaaGreat
open Go.RowKit
variable {dd : Bool}
def rV (b : Bool) : Option Unit := if b = true then some () else none
theorem IE {b : Bool} {u : Unit} (h : rV b = some u) : b = true := by
 unfold rV at h; split at h
 ·assumption
 ·cases h
theorem vd {a c : Int} {u : Unit} (h : rV (decide (0 ≤ a) && decide (a ≤ c)) = some u) : 0 ≤ a := by have := IE h; simp at this; exact this.1
theorem vc {a c : Int} {u : Unit} (h : rV (decide (0 ≤ a) && decide (a ≤ c)) = some u) : a ≤ c := by have := IE h; simp at this; exact this.2
def Ak (k : Nat) (v : Value) (i : Nat) (u : Value) : Prop := ∃ A n c A' a, v = .slice A n c ∧ u = .slice A' (n - i) a ∧ i ≤ n ∧ (i < n → ∃ b o, A = some ⟨b, o, none⟩ ∧ A' = some ⟨b, o + i * k, none⟩)
section
variable {P : Program} {E : Nat → Value} {W : World} {d : Option Nat} {ty : TypeId} {pos : String} {af : Array Edge} {g : Option (Nat × Bool)}
 {F : Nat → Prop} {w : World} {μ : kl} {L : List (Nat × Obj)} {α : Type} {e' : TypeId} {enc : α → List Value} {k : Nat} {v : Value} {l : List α} {R : List (Nat × Obj)}
theorem zo {t e : TypeId} {x a : Operand} {y : IntKind} {i : Int} (n : P.underlying t = some (.slice e)) (he : ∀ w, (sizeOf e).run P w = .ok k w) (p : jG E x = v) (j : jG E a = .int y i) (h : jT e' enc k v l R) (q : 0 ≤ i) (m : i ≤ l.length) :
  ∃ u, Ak k v i.toNat u ∧ ∀ W, lQ P E ⟨d, .slice t x (some a) none none, ty, pos, af, g⟩ W u W := by
 rcases h with ⟨rfl, rfl, rfl⟩ | ⟨b, cap, cur, rfl, rfl, h1, z, A, D⟩
 ·have : i = 0 := by simp at m; omega
  subst this
  refine ⟨.slice none 0 0, ⟨none, 0, 0, none, 0, rfl, rfl, aY _, fun h => absurd h (by simp)⟩, fun W => ?_⟩
  show (do pure (.value (← Instr.sliceAt t (jG E x) (some (jG E a)) none none)) : Sem Next).run P W = _
  rw [p, j]
  simp [Instr.sliceAt, Instr.slice, Instr.sliceBounds, Instr.sliceBound, asIntOf, bJ n, he W]
 ·refine ⟨.slice (some (if cap = i.toNat then ⟨b, 0, none⟩ else (Addr.add ⟨b, 0, none⟩ (i.toNat * k)))) (l.length - i.toNat) (cap - i.toNat), ⟨_, _, _, _, _, rfl, rfl, by omega, fun s => ⟨b, 0, rfl, ?_⟩⟩, fun W => ?_⟩
  ·rw [bI (by omega)]; simp [dU]
  ·show (do pure (.value (← Instr.sliceAt t (jG E x) (some (jG E a)) none none)) : Sem Next).run P W = _
   rw [p, j]
   have r : 0 ≤ i ∧ i ≤ (l.length : Int) := ⟨q, m⟩
   simp [Instr.sliceAt, Instr.slice, Instr.sliceBounds, Instr.sliceBound, asIntOf, bJ n, he W, r]
   split <;> rfl
theorem AB {i j : Nat} {x0 : α} (h : (l.drop i)[j]? = some x0) : l[i + j]? = some x0 := by rwa [dM] at h
theorem HR {t e : TypeId} {x : Operand} {u : Value} {i : Nat} (b : P.underlying t = some (.slice e)) (j : jG E x = u) (hu : Ak k v i u) (h : jT e' enc k v l R) : lQ P E ⟨d, .call ⟨.builtin .len, #[x], #[t]⟩, ty, pos, af, g⟩ W (.int .i64 ((l.length - i : Nat) : Int)) W := by
 obtain ⟨A, n, c, A', m, h1, a, q, _⟩ := hu
 subst a
 have : n = l.length := by
  rcases h with ⟨rfl, rfl, rfl⟩ | ⟨p, cap, cur, rfl, rfl, _⟩
  ·cases h1; rfl
  ·cases h1; rfl
 subst this
 exact Aq b j
theorem zg {t e : TypeId} {x m : Operand} {L : IntKind} {i : Int} {x0 : α} {u : Value} {o : Nat} (I : P.underlying t = some (.slice e)) (he : ∀ w, (sizeOf e).run P w = .ok k w) (J : jG E x = u) (F : jG E m = .int L i) (h : jT e' enc k v l R) (hu : Ak k v o u) (y : 0 ≤ i) (G : (l.drop o)[i.toNat]? = some x0) :
  ∃ p, Ab R k p (o + i.toNat) ∧ ∀ W, lQ P E ⟨d, .indexAddr t x m, ty, pos, af, g⟩ W p W := by
 have a := AB G
 have j : o + i.toNat < l.length := (bK.1 a).1
 rcases h with ⟨rfl, rfl, rfl⟩ | ⟨s, cap, cur, rfl, rfl, h1, O, Q, T⟩
 ·simp at j
 obtain ⟨A, n, c, A', M, q, rfl, U, z⟩ := hu
 cases q
 obtain ⟨b, Y, r, rfl⟩ := z (by omega)
 cases r
 refine ⟨.pointer (some ⟨s, (o + i.toNat) * k, none⟩), ⟨_, _, rfl, rfl⟩, fun W => ?_⟩
 show (do pure (.value (← Instr.indexAt t (jG E x) (jG E m))) : Sem Next).run P W = _
 rw [J, F]
 have D : 0 ≤ i ∧ i < ((l.length - o : Nat) : Int) := ⟨y, by omega⟩
 simp [Instr.indexAt, asIntOf, bJ I, he W, D, dU, cR]
theorem He (ys : List Value) (m : Nat) : (Builtin.zeroCells ys.toArray m).toList = (List.replicate m ys).flatten := by
 unfold Builtin.zeroCells
 simp only [Array.toList_map, Array.toList_range, ew]
 rcases eU ys.length with a | a
 ·have : ys = [] := eG.1 a
  subst this
  simp
 apply eO
 intro q
 by_cases d : q < m * ys.length
 ·have h1 : q / ys.length < m := (gP a).2 d
  have b : q % ys.length < ys.length := Nat.mod_lt _ a
  have := wE (enc := fun _ : Unit => ys) (fun _ => rfl) (List.replicate m ()) (q / ys.length) () (by simp [h1]) (q % ys.length) ys[q % ys.length] (by simp [b])
  rw [Nat.div_add_mod' q ys.length] at this
  rw [List.map_replicate] at this
  rw [this]
  simp [d, b]
 ·rw [eT (by simp; omega), eT (by simp; omega)]
theorem JE {K : Value → World → Prop} (z : α) (X : List (Nat × Obj)) {Y : List (Nat × Obj)} {t e : TypeId} {x : Operand} {u T : Value} {i : Nat} (j : ST dd F w W μ (X ++ (R ++ Y))) (h : jT e' enc k v l R) (hk : ∀ x, (enc x).length = k) (h1 : ∀ x, ∀ u ∈ enc x, u.oneCell' = true) (L : P.underlying t = some (.slice e)) (hz : ∀ w, (zeroValue e).run P w = .ok T w) (hu : Ak k v i u) (hc : T.cells = (enc z).toArray) (hx : jG E x = u) (I : ∀ W' R', ST dd F w W' μ (X ++ (R' ++ Y)) → jT e' enc k v (oz l i z) R' → K (.tuple #[]) W') : nn P E ⟨d, .call ⟨.builtin .clear, #[x], #[t]⟩, ty, pos, af, g⟩ W K := by
 have a : ∀ (W' : World), (Builtin.clear_ #[t] ty #[u]).run P W = .ok (.tuple #[]) W' → (execOp (jG E) ⟨d, .call ⟨.builtin .clear, #[x], #[t]⟩, ty, pos, af, g⟩).run P W = .ok (.value (.tuple #[])) W' := by
  intro W' hV
  show (do let d ← resolve (jG E) ⟨.builtin .clear, #[x], #[t]⟩ ty; invoke d.target d.args : Sem Next).run P W = _
  simp [resolve, invoke, builtin, hx, hV]
 obtain ⟨A, n, c, A', c', U, rfl, s, h8⟩ := hu
 rcases h with ⟨rfl, rfl, rfl⟩ | ⟨q, cap, cur, rfl, rfl, Q, q2, D, q4⟩
 ·cases U
  refine .inl ⟨_, W, a W ?_, I W [] j (by simpa [oz] using jT.nil e' enc k)⟩
  simp only [Builtin.clear_, Nat.zero_sub]
  cases A' <;> simp [bJ L]
 ·cases U
  by_cases hi : i < l.length
  ·obtain ⟨b, o, e2, rfl⟩ := h8 hi
   cases e2
   have O : ∀ m, (Builtin.zeroCells T.cells m).toList = (List.replicate m (enc z)).flatten := by
    intro m
    rw [hc]; exact He _ _
   have hb := (j.box q (.cells cur e' (0, 0)) (by simp)).1
   have hle : i * k + (l.length - i) * k = l.length * k := by rw [← cR]; congr 1; omega
   have hlen : l.length * k ≤ c * k := cO _ Q
   have p : ((List.replicate (l.length - i) (enc z)).flatten).length = (l.length - i) * k := by simp [hk]
   have r : ∀ v ∈ (List.replicate (l.length - i) (enc z)).flatten, v.oneCell' = true := by
    intro v y
    obtain ⟨ys, M, y⟩ := iS.1 y
    rw [(List.mem_replicate.1 M).2] at y
    exact h1 z v y
   have hs := iH (P := P) q (i * k) e' ((List.replicate (l.length - i) (enc z)).flatten) 0 cur W hb (by rw [p, D]; omega) r
   rw [gG, p, hle] at hs
   refine .inl ⟨_, W.setRow q (cur.toList.take (i * k) ++ (List.replicate (l.length - i) (enc z)).flatten ++ cur.toList.drop (l.length * k)).toArray, a _ ?_, I _ [(q, .cells (cur.toList.take (i * k) ++ (List.replicate (l.length - i) (enc z)).flatten ++ cur.toList.drop (l.length * k)).toArray e' (0, 0))] (j.store _) (.inr ⟨q, c, _, by rw [vw _ _ _ s], rfl, by rw [vw _ _ _ s]; exact Q, q2, ?_, ?_⟩)⟩
   ·have hn : l.length - i = (l.length - i - 1) + 1 := by omega
    simp only [Builtin.clear_]
    rw [hn]
    simp only [bJ L, cF, bT, List.getElem?_toArray, gA, hz, fe]
    rw [← hn, O, hs]
    simp
   ·have G : cur.toList.length = c * k := by simpa using D
    rw [ew, aF, aF, dF, gS, p, G, dZ (by omega)]
    omega
   ·rw [vw _ _ _ s, oz, cL, cT, D5 hk l i s, ← q4, gE, dZ (by omega), List.map_replicate]
    have G : cur.toList.length = c * k := by simpa using D
    have Z : (cur.toList.take (i * k) ++ (List.replicate (l.length - i) (enc z)).flatten).length = l.length * k := by rw [aF, dF, p, G, dZ (by omega)]; omega
    show List.take (l.length * k) (cur.toList.take (i * k) ++ (List.replicate (l.length - i) (enc z)).flatten ++ cur.toList.drop (l.length * k)) = _
    rw [fI, dW (by rw [Z]; exact aY _), Z, Nat.sub_self]
    simp
  ·have J : i = l.length := by omega
   subst J
   refine .inl ⟨_, W, a W ?_, I W _ j ?_⟩
   ·simp only [Builtin.clear_, Nat.sub_self]
    cases A' <;> simp [bJ L]
   ·simp only [oz, List.take_length, Nat.sub_self, List.replicate_zero, bH]
    exact .inr ⟨q, c, cur, rfl, rfl, Q, q2, D, q4⟩
end
end Go.Proofs.YtmlncblocfcmiaaGreat
namespace Go.Proofs.YtmlncblocfcmiaaGreat
open Go.RowKit
variable {dd : Bool}
section
variable {P : Program} {E : Nat → Value} {W : World} {d : Option Nat} {ty : TypeId} {pos : String} {af : Array Edge} {g : Option (Nat × Bool)}
 {F : Nat → Prop} {w : World} {μ : kl} {L : List (Nat × Obj)}
theorem KF {K : Value → World → Prop} {f : FuncId} {fv : Operand} {ax : Array Operand} {ats : Array TypeId} {args : List Value} {v : Value} (b : jG E fv = .func (.func f) #[] #[]) (ha : ax.map (jG E) ++ (#[] : Array Value) = args.toArray) (i : (callFunc f args.toArray).run P W = .ok (.value v) W) (h : K v W) : nn P E ⟨d, .call ⟨.value fv, ax, ats⟩, ty, pos, af, g⟩ W K := by
 have a : ax.map (jG E) = args.toArray := by simpa using ha
 refine .inl ⟨v, W, ?_, h⟩
 show (do let d ← resolve (jG E) ⟨.value fv, ax, ats⟩ ty; invoke d.target d.args : Sem Next).run P W = _
 simp only [resolve, b, Deferred.ofValue, cF, dC, bT, invoke]
 rw [a]
 simpa using i
def wJ (s : ByteArray) (c : Int) : Int := Lib.indexByte s.data.toList c.toNat.toUInt8
def oX (a b : ByteArray) : Int := Lib.compareBytes a.data.toList b.data.toList
def tS (l : List Int) : List UInt8 := l.map fun x => x.toNat.toUInt8
def xU (a b : List Int) : Int := Lib.compareBytes (tS a) (tS b)
theorem Hh {f : FuncId} {fn : Func} (d : P.funcs[f]? = some fn) (a : (fn.name == "runtime.NumGoroutine") = false) (b : fn.body.isNone = true) (g : Extern.findNext fn = none) (he : Extern.find fn = some Extern.BytealgIndexByte.indexByte) (s : ByteArray) (c : Int) (w : World) :
  (callFunc f [Value.string s, .int .u8 c].toArray).run P w = .ok (.value (.int .i64 (wJ s c))) w := by
 rw [iq d a b g he]
 rw [Lib.run_indexByteString]
 rfl
theorem Nf {f : FuncId} {fn : Func} (h : P.funcs[f]? = some fn) (d : (fn.name == "runtime.NumGoroutine") = false) (g : fn.body.isNone = true) (i : Extern.findNext fn = none) (he : Extern.find fn = some Extern.BytealgCompare.compare) (a b : ByteArray) (w : World) :
  (callFunc f [Value.string a, .string b].toArray).run P w = .ok (.value (.int .i64 (oX a b))) w := by
 rw [iq h d g i he]
 rw [Lib.run_compareString]
 rfl
theorem CY {v : Value} {l : List Int} (h : Sl (Pl (lu .u8)) 1 (hp W) v l) : (Extern.Bytes.bytesOf v).run P W = .ok ⟨(tS l).toArray⟩ W := by
 obtain ⟨A, c, rfl, p, q, i⟩ := h
 rcases eU l.length with a | a
 ·have : l = [] := eG.1 a
  subst this
  cases A <;> simp [Extern.Bytes.bytesOf, Extern.Bytes.loadBytes, tS] <;> rfl
 ·obtain ⟨b, off, cs, T, fr, rfl, k, m⟩ := i a
  have := Lib.run_loadBytesX (P := P) W l ⟨b, off, none⟩ .empty (fun j x n => by
   obtain ⟨ys, _, g, d⟩ := m j x n
   cases g
   rw [dU, gz W b (off + j) cs T fr k]
   have := d 0 (.int .u8 x) rfl
   simpa using this)
  simp only [Extern.Bytes.bytesOf]
  rw [this]
  congr 1
  apply iN
  show (#[] : Array UInt8) ++ _ = _
  simp [Lib.bytesOf, tS]
theorem N2 {f : FuncId} {fn : Func} (k : P.funcs[f]? = some fn) (d : (fn.name == "runtime.NumGoroutine") = false) (j : fn.body.isNone = true) (l : Extern.findNext fn = none) (he : Extern.find fn = some Extern.BytealgCompare.compare) {g h : Value} {a b : List Int} (h1 : Sl (Pl (lu .u8)) 1 (hp W) g a) (i : Sl (Pl (lu .u8)) 1 (hp W) h b) :
  (callFunc f [g, h].toArray).run P W = .ok (.value (.int .i64 (xU a b))) W := by
 rw [iq k d j l he]
 have : (Extern.BytealgCompare.compare [g, h].toArray).run P W = .ok (.int .i64 (xU a b)) W := by
  change Sem.run P (do pure (goInt (Extern.BytealgCompare.cmp (← Extern.Bytes.bytesOf g) (← Extern.Bytes.bytesOf h)))) W = _
  simp only [cF, CY h1, CY i, dC, Result.andThen]
  rw [Lib.cmp_eq]
  rfl
 rw [this]
 rfl
theorem Gr {t e : TypeId} {k b m c o : Nat} {x a : Operand} {s : IntKind} {i : Int} (q : P.underlying t = some (.slice e)) (he : ∀ w, (sizeOf e).run P w = .ok k w) (r : jG E x = .slice (some ⟨b, 0, none⟩) m c) (l : jG E a = .int s i) (h : 0 ≤ i) (n : i < (m : Int)) (p : i.toNat * k = o) :
  lQ P E ⟨d, .indexAddr t x a, ty, pos, af, g⟩ W (.pointer (some ⟨b, o, none⟩)) W := by
 show (do pure (.value (← Instr.indexAt t (jG E x) (jG E a))) : Sem Next).run P W = _
 rw [r, l]
 subst p
 have j : 0 ≤ i ∧ i < (m : Int) := ⟨h, n⟩
 simp [Instr.indexAt, asIntOf, bJ q, he W, j, dU]
theorem rH {fn : Fn} {caps : Array Operand} {cs : List Value} {v : Value} (a : caps.map (jG E) ++ (#[] : Array Value) = cs.toArray) (b : .func fn #[] cs.toArray = v) : lQ P E ⟨d, .makeFunc fn #[] caps, ty, pos, af, g⟩ W v W := by
 have : caps.map (jG E) = cs.toArray := by simpa using a
 exact Lv (by rw [this]; simpa using b)
theorem lF.mono {f : FuncId} {args : List Value} {L0 : List (Nat × Obj)} {K K' : Value → List (Nat × Obj) → World → Prop} (h : lF dd P f args w L0 K) (hk : ∀ v L1 W', K v L1 W' → K' v L1 W') : lF dd P f args w L0 K' :=
 dV h (fun _ _ ⟨v, L1, h1, a, b⟩ => ⟨v, L1, h1, a, hk _ _ _ b⟩)
end
section
variable {α : Type}
def ul (cf : α × α → Option Int) (x y : α) : Bool := match cf (x, y) with
 | some c => decide (c < 0)
 | none => false
structure DC (cf : α × α → Option Int) (l : List α) : Prop where
 is : ∀ x ∈ l, ∀ y ∈ l, ∃ c, cf (x, y) = some c
 irrefl : ∀ x ∈ l, ul cf x x = false
 trans : ∀ x ∈ l, ∀ y ∈ l, ∀ z ∈ l, ul cf x y = true → ul cf y z = true → ul cf x z = true
 total : ∀ x ∈ l, ∀ y ∈ l, ul cf x y = false → ul cf y x = false → x = y
 short : l.length < 4611686018427387904
def tD (cf : α × α → Option Int) (l : List α) : List α := l.mergeSort fun x y => !ul cf y x
open Classical in
noncomputable def zp (cf : α × α → Option Int) (l : List α) : Option (List α) := if DC cf l then some (tD cf l) else none
theorem FY {cf : α × α → Option Int} {l r : List α} (h : zp cf l = some r) : DC cf l ∧ r = tD cf l := by
 unfold zp at h
 split at h
 ·rename_i a; cases h; exact ⟨a, rfl⟩
 ·cases h
theorem Nc {cf : α × α → Option Int} {l : List α} (h : DC cf l) : zp cf l = some (tD cf l) := by
 unfold zp; rw [bD h]
def uP (l : List ByteArray) : List ByteArray := l.mergeSort fun x y => !pI y x
end
end Go.Proofs.YtmlncblocfcmiaaGreat
namespace Go.Proofs.YtmlncblocfcmiaaGreat
open Go.RowKit
variable {dd : Bool}
def wy {κ γ : Type} (Q : Value → γ → List (Nat × Obj) → Prop) : List (κ × Value) → List (κ × γ) → List (Nat × Obj) → Prop
 | [], [], R => R = []
 | p :: a, q :: l, R => p.1 = q.1 ∧ ∃ R1 R2, R = R1 ++ R2 ∧ Q p.2 q.2 R1 ∧ wy Q a l R2
 | _, _, _ => False
def mK {κ γ : Type} (kenc : κ → Value) (Q : Value → γ → List (Nat × Obj) → Prop) (v : Value) (d : List (κ × Value)) (l : List (κ × γ)) (R : List (Nat × Obj)) : Prop :=
 ∃ a b, R = a ++ b ∧ lL kenc (fun x => x) v d a ∧ wy Q d l b
section
variable {κ γ : Type} {Q : Value → γ → List (Nat × Obj) → Prop} {beq : κ → κ → Bool} {kenc : κ → Value}
theorem wy.keys : ∀ {a : List (κ × Value)} {l : List (κ × γ)} {R : List (Nat × Obj)}, wy Q a l R → a.map (·.1) = l.map (·.1)
 | [], [], _, _ => rfl
 | [], _ :: _, _, h => h.elim
 | _ :: _, [], _, h => h.elim
 | p :: a, q :: l, R, h => by
  obtain ⟨h1, R1, R2, _, _, b⟩ := h
  simp [h1, wy.keys b]
theorem wy.find {a : List (κ × Value)} {l : List (κ × γ)} {R : List (Nat × Obj)} (h : wy Q a l R) (k : κ) : a.findIdx? (fun p => beq k p.1) = l.findIdx? (fun p => beq k p.1) := by
 have h1 : (a.map (·.1)).findIdx? (fun x => beq k x) = (l.map (·.1)).findIdx? (fun x => beq k x) := by rw [h.keys]
 rw [gF, gF] at h1
 exact h1
theorem wy.get : ∀ {d : List (κ × Value)} {l : List (κ × γ)} {R : List (Nat × Obj)}, wy Q d l R → ∀ (i : Nat) (k : κ) (x : γ), l[i]? = some (k, x) →
  ∃ v A R1 B, d[i]? = some (k, v) ∧ R = A ++ (R1 ++ B) ∧ Q v x R1 ∧ ∀ b v2 x2 R2, Q v2 x2 R2 → wy Q (d.set i (b, v2)) (l.set i (b, x2)) (A ++ (R2 ++ B))
 | [], [], _, _, i, k, x, a => by simp at a
 | [], _ :: _, _, h, _, _, _, _ => h.elim
 | _ :: _, [], _, h, _, _, _, _ => h.elim
 | p :: d, q :: l, R, h, 0, k, x, a => by
  obtain ⟨h1, R1, R2, rfl, g, j⟩ := h
  simp at a
  subst a
  refine ⟨p.2, [], R1, R2, by simp only [gA]; exact bN some (Prod.ext h1 rfl), rfl, g, fun b v2 x2 R2' m => ⟨rfl, R2', R2, rfl, m, j⟩⟩
 | p :: d, q :: l, R, h, i + 1, k, x, a => by
  obtain ⟨h1, R1, R2, rfl, g, j⟩ := h
  simp at a
  obtain ⟨v, A, R1', B, g1, rfl, g3, g4⟩ := wy.get j i k x a
  exact ⟨v, R1 ++ A, R1', B, by simpa using g1, by simp, g3, fun b v2 x2 R2' m => ⟨h1, R1, A ++ (R2' ++ B), by simp, g, g4 b v2 x2 R2' m⟩⟩
theorem wy.push : ∀ {b : List (κ × Value)} {l : List (κ × γ)} {R : List (Nat × Obj)}, wy Q b l R → ∀ (k : κ) {v : Value} {x : γ} {R1 : List (Nat × Obj)}, Q v x R1 → wy Q (b ++ [(k, v)]) (l ++ [(k, x)]) (R ++ R1)
 | [], [], _, h, k, v, x, R1, a => by
  have i : _ = [] := h
  subst i
  exact ⟨rfl, R1, [], by simp, a, rfl⟩
 | [], _ :: _, _, h, _, _, _, _, _ => h.elim
 | _ :: _, [], _, h, _, _, _, _, _ => h.elim
 | p :: b, q :: l, R, h, k, v, x, R1, a => by
  obtain ⟨h1, d, g, rfl, j, m⟩ := h
  exact ⟨h1, d, g ++ R1, by simp, j, wy.push m k a⟩
theorem mK.found {t : Value} {d : List (κ × Value)} {l : List (κ × γ)} {R : List (Nat × Obj)} (hk : ∀ {x y : κ}, beq x y = true → x = y) (h : mK kenc Q t d l R) {k : κ} {x : γ} (b : kV beq l k = some x) :
  ∃ v A R1 B, kV beq d k = some v ∧ R = A ++ (R1 ++ B) ∧ Q v x R1 ∧ (∀ x2 R2, Q v x2 R2 → mK kenc Q t d (nU beq l k x2) (A ++ (R2 ++ B))) := by
 obtain ⟨r, D, rfl, u, s⟩ := h
 rw [xR] at b
 cases g : l.findIdx? (fun p => beq k p.1) with
 | none => rw [g] at b; cases b
 | some i =>
  rw [g] at b
  obtain ⟨p, hp, w⟩ := rG g
  simp only [aA, hp, eE, fX] at b
  subst b
  have q := hk w
  obtain ⟨v, A, R1, B, g1, rfl, g3, g4⟩ := s.get i p.1 p.2 hp
  have m : d.findIdx? (fun p => beq k p.1) = some i := by rw [s.find k, g]
  refine ⟨v, r ++ A, R1, B, by rw [xR, m]; simp [g1], by simp, g3, fun x2 R2 z => ⟨r, A ++ (R2 ++ B), by simp, u, ?_⟩⟩
  have a := g4 k v x2 R2 z
  have e : d.set i (k, v) = d := by
   apply eO
   intro j
   rw [fu]
   split
   ·rename_i n
    subst n
    rw [g1, q]
    simp [(bK.1 g1).1]
   ·rfl
  rw [e] at a
  rw [nU, g]
  exact a
theorem mK.Lt {j : Value} {d : List (κ × Value)} {l : List (κ × γ)} {R : List (Nat × Obj)} (h : mK kenc Q j d l R) {k : κ} (a : kV beq l k = none) : kV beq d k = none := by
 obtain ⟨m, n, rfl, q, g⟩ := h
 rw [xR] at a ⊢
 rw [g.find k]
 cases b : l.findIdx? (fun p => beq k p.1) with
 | none => rfl
 | some i =>
  rw [b] at a
  obtain ⟨p, hp, r⟩ := rG b
  simp [hp] at a
def qY (beq : κ → κ → Bool) (a : List (κ × Value)) (k : κ) (z : Value) : Value := (kV beq a k).getD z
variable {P : Program} {W : World} {kt : TypeId} {E : Nat → Value} {d : Option Nat} {ty : TypeId} {pos : String} {af : Array Edge} {g : Option (Nat × Bool)} {F : Nat → Prop} {w : World} {μ : kl} {L : List (Nat × Obj)}
theorem oZ {t e : TypeId} {m x : Operand} {i z : Value} {a : List (κ × Value)} {l : List (κ × γ)} {R : List (Nat × Obj)} {k : κ} (K : pk P kt kenc beq) (r : P.underlying t = some (.map kt e)) (u : ∀ w, (zeroValue e).run P w = .ok z w) (hm : jG E m = i) (s : jG E x = kenc k) (p : mK kenc Q i a l R) (q : ∀ b o, (b, o) ∈ R → W.heap[b]? = some o) : lQ P E ⟨d, .lookup t m x false, ty, pos, af, g⟩ W (qY beq a k z) W := by
 obtain ⟨v, y, rfl, j, A⟩ := p
 have n := Jg (d := d) (ty := ty) (pos := pos) (af := af) (g := g) K r u hm s (j.at (μ := hp W) (fun b o h => q b o (cJ _ h)))
 simpa [qY] using n
variable {κ2 β : Type} {kenc2 : κ2 → Value} {vf : β → Value} {beq2 : κ2 → κ2 → Bool} {kt2 : TypeId}
theorem mK.CA {j : Value} {d : List (κ × Value)} {l : List (κ × List (κ2 × β))} {R : List (Nat × Obj)} (hk : ∀ {x y : κ}, beq x y = true → x = y) (h : mK kenc (lL kenc2 vf) j d l R) (k : κ) {μ : kl} (g : ∀ b o, (b, o) ∈ R → μ b = some o) :
  vZ kenc2 vf μ (qY beq d k (.map none)) ((kV beq l k).getD []) := by
 cases a : kV beq l k with
 | none => rw [qY, h.Lt a]; exact .inl ⟨rfl, rfl⟩
 | some x =>
  obtain ⟨v, A, R1, B, g1, rfl, g3, _⟩ := h.found hk a
  rw [qY, g1]
  exact g3.at (fun b o i => g b o (by simp [i]))
theorem mK.isNil {d : Value} {b : List (κ × Value)} {l : List (κ × List (κ2 × β))} {R : List (Nat × Obj)} (hk : ∀ {x y : κ}, beq x y = true → x = y) (h : mK kenc (lL kenc2 vf) d b l R) (k : κ) :
  ∃ r, qY beq b k (.map none) = .map r ∧ r.isNone = (kV beq l k).isNone := by
 cases a : kV beq l k with
 | none => rw [qY, h.Lt a]; exact ⟨none, rfl, rfl⟩
 | some x =>
  obtain ⟨v, A, R1, B, g1, rfl, g3, _⟩ := h.found hk a
  obtain ⟨m, es, clock, rfl, _⟩ := g3
  rw [qY, g1]
  exact ⟨_, rfl, rfl⟩
def FF {κ κ2 β : Type} (beq : κ → κ → Bool) (beq2 : κ2 → κ2 → Bool) (l : List (κ × List (κ2 × β))) (k : κ) (a : κ2) (x : β) : Option (List (κ × List (κ2 × β))) := (kV beq l k).map fun b => nU beq l k (nU beq2 b a x)
def Fo {κ γ : Type} (beq : κ → κ → Bool) (l : List (κ × γ)) (k : κ) (x : γ) : Option (List (κ × γ)) := if (kV beq l k).isNone then some (nU beq l k x) else none
theorem Mm {q : Value → World → Prop} (X : List (Nat × Obj)) {Y R : List (Nat × Obj)} {t e : TypeId} {m x y : Operand} {z : Value} {p : List (κ × Value)} {l s : List (κ × List (κ2 × β))} {k : κ} {r : κ2} {v : β} (hk : ∀ {x y : κ}, beq x y = true → x = y) (K : pk P kt2 kenc2 beq2) (I : P.underlying t = some (.map kt2 e)) (i : ST dd F w W μ (X ++ (R ++ Y))) (h : mK kenc (lL kenc2 vf) z p l R) (hm : jG E m = qY beq p k (.map none)) (J : jG E x = kenc2 r) (L : jG E y = vf v) (b : FF beq beq2 l k r v = some s) (G : ∀ W' R', ST dd F w W' μ (X ++ (R' ++ Y)) → mK kenc (lL kenc2 vf) z p s R' → q undef W') : nn P E ⟨d, .mapUpdate t m x y, ty, pos, af, g⟩ W q := by
 unfold FF at b
 cases j : kV beq l k with
 | none => rw [j] at b; cases b
 | some M =>
  rw [j] at b
  cases b
  obtain ⟨u, A, R1, B, g1, rfl, g3, g4⟩ := h.found hk j
  have n : jG E m = u := by rw [hm, qY, g1]; rfl
  have a : ST dd F w W μ ((X ++ A) ++ (R1 ++ (B ++ Y))) := by simpa using i
  refine BF (X ++ A) K I a g3 n J L (fun W' R' h1 D => G W' (A ++ (R' ++ B)) ?_ (g4 _ _ D))
  simpa using h1
theorem Mz {D : Value → World → Prop} (X : List (Nat × Obj)) {Y R R2 : List (Nat × Obj)} {t e : TypeId} {m x y : Operand} {A : Value} {v : List (κ × Value)} {l J : List (κ × γ)} {k : κ} {u : Value} {z : γ} (K : pk P kt kenc beq) (ht : P.underlying t = some (.map kt e)) (s : ST dd F w W μ (X ++ (R ++ (R2 ++ Y)))) (h : mK kenc Q A v l R) (hm : jG E m = A) (hx : jG E x = kenc k) (hy : jG E y = u) (hq : Q u z R2) (b : Fo beq l k z = some J) (U : ∀ W' R', ST dd F w W' μ (X ++ (R' ++ Y)) → mK kenc Q A (nU beq v k u) J R' → D undef W') : nn P E ⟨d, .mapUpdate t m x y, ty, pos, af, g⟩ W D := by
 unfold Fo at b
 cases n : kV beq l k with
 | some l2 => rw [n] at b; cases b
 | none =>
  rw [n] at b
  simp only [Option.isNone_none, aT, fX] at b
  subst b
  have Z := h.Lt n
  obtain ⟨M, r, rfl, O, T⟩ := h
  have j : ST dd F w W μ (X ++ (M ++ (r ++ (R2 ++ Y)))) := by simpa using s
  refine BF X K ht j O hm hx hy (fun W' R' g1 g2 => U W' (R' ++ (r ++ R2)) (by simpa using g1) ⟨R', r ++ R2, rfl, g2, ?_⟩)
  have G : ∀ {L : Type} (q : List (κ × L)) (y : L), kV beq q k = none → nU beq q k y = q ++ [(k, y)] := fun q y a => by
   rw [xR] at a
   rw [nU]
   cases I : q.findIdx? (fun p => beq k p.1) with
   | none => rfl
   | some i =>
    obtain ⟨p, hp, _⟩ := rG I
    rw [I] at a
    simp [hp] at a
  rw [G v u Z, G l z n]
  exact T.push k hq
end
end Go.Proofs.YtmlncblocfcmiaaGreat
namespace Go.Proofs.YtmlncblocfcmiaaGreat
open Go.RowKit
variable {dd : Bool}
section
variable {κ γ : Type} {Q : Value → γ → List (Nat × Obj) → Prop} {beq : κ → κ → Bool} {kenc : κ → Value}
theorem qG {a : Type} {l : List (κ × a)} {k : κ} {i : Nat} (h : l.findIdx? (fun p => beq k p.1) = some i) (x : a) : nU beq l k x = l.set i (k, x) := by rw [nU, h]
theorem uR {a : Type} {l : List (κ × a)} {k : κ} (h : l.findIdx? (fun p => beq k p.1) = none) (x : a) : nU beq l k x = l ++ [(k, x)] := by rw [nU, h]
theorem Dn {a : Type} {l : List (κ × a)} {k : κ} (h : l.findIdx? (fun p => beq k p.1) = none) : kV beq l k = none := by rw [xR, h]; rfl
theorem Cf {a : Type} {l : List (κ × a)} {k : κ} {i : Nat} {p : κ × a} (h : l.findIdx? (fun p => beq k p.1) = some i) (hp : l[i]? = some p) : kV beq l k = some p.2 := by rw [xR, h]; simp [hp]
def KJ (beq : κ → κ → Bool) (kenc : κ → Value) (Q : Value → γ → List (Nat × Obj) → Prop) (d : Value) (b : List (κ × Value)) (l : List (κ × γ)) (k : κ) (R : List (Nat × Obj)) : Prop :=
 ∃ a A B, R = a ++ (A ++ B) ∧ lL kenc (fun x => x) d b a ∧ ∀ v x R1, Q v x R1 → wy Q (nU beq b k v) (nU beq l k x) (A ++ (R1 ++ B))
theorem mK.open (hk : ∀ {x y : κ}, beq x y = true → x = y) {s z : Value} {x0 : γ} (m : Q z x0 []) {n : List (κ × Value)} {l : List (κ × γ)} {R : List (Nat × Obj)} (h : mK kenc Q s n l R) (k : κ) :
  ∃ R' R1, R.Perm (R' ++ R1) ∧ Q (qY beq n k z) ((kV beq l k).getD x0) R1 ∧ KJ beq kenc Q s n l k R' := by
 obtain ⟨d, q, rfl, r, g⟩ := h
 have b := g.find (beq := beq) k
 cases a : l.findIdx? (fun p => beq k p.1) with
 | none =>
  rw [a] at b
  refine ⟨d ++ q, [], by simp, ?_, d, q, [], by simp, r, fun v x R1 j => ?_⟩
  ·rw [qY, Dn a, Dn b]; exact m
  ·rw [uR a, uR b]; simpa using g.push k j
 | some i =>
  rw [a] at b
  obtain ⟨p, hp, t⟩ := rG a
  have u := hk t
  obtain ⟨v, A, R1, B, g1, rfl, g3, g4⟩ := g.get i p.1 p.2 hp
  refine ⟨d ++ (A ++ B), R1, ?_, ?_, d, A, B, rfl, r, fun v2 x2 R2 j => ?_⟩
  ·rw [aP, aP]
   refine cE _ (cE _ fp)
  ·rw [qY, Cf a hp, Cf b g1]; exact g3
  ·rw [qG a, qG b]; exact g4 k v2 x2 R2 j
variable {P : Program} {W : World} {kt : TypeId} {E : Nat → Value} {d : Option Nat} {ty : TypeId} {pos : String} {af : Array Edge} {g : Option (Nat × Bool)} {F : Nat → Prop} {w : World} {μ : kl} {L : List (Nat × Obj)}
theorem PE {j : Value → World → Prop} (X : List (Nat × Obj)) {Y R R1 : List (Nat × Obj)} {t e : TypeId} {m x y : Operand} {i : Value} {n : List (κ × Value)} {l : List (κ × γ)} {k : κ} {u : Value} {z : γ} (K : pk P kt kenc beq) (D : P.underlying t = some (.map kt e)) (b : ST dd F w W μ (X ++ (R ++ (R1 ++ Y)))) (h : KJ beq kenc Q i n l k R) (hm : jG E m = i) (G : jG E x = kenc k) (I : jG E y = u) (v : Q u z R1) (s : ∀ W' R', ST dd F w W' μ (X ++ (R' ++ Y)) → mK kenc Q i (nU beq n k u) (nU beq l k z) R' → j undef W') : nn P E ⟨d, .mapUpdate t m x y, ty, pos, af, g⟩ W j := by
 obtain ⟨p, A, B, rfl, q, r⟩ := h
 have a : ST dd F w W μ (X ++ (p ++ (A ++ (B ++ (R1 ++ Y))))) := by simpa using b
 refine BF X K D a q hm G I (fun W' R' g1 g2 => s W' (R' ++ (A ++ (R1 ++ B))) ?_ ⟨R', A ++ (R1 ++ B), rfl, g2, r u z R1 v⟩)
 refine g1.perm ?_
 simp only [aP]
 refine cE _ (cE _ (cE _ ?_))
 rw [← aP, ← aP]
 exact gH _ fp
def Ig (beq : κ → κ → Bool) (kenc : κ → Value) (Q : Value → γ → List (Nat × Obj) → Prop) (b : Value) (l : List (κ × γ)) (k : κ) (d : Nat) (R : List (Nat × Obj)) : Prop :=
 ∃ m es clock a A B i e, b = .map (some m) ∧ R = (m, .map es clock) :: (A ++ B) ∧ uC kenc (fun x => x) a es clock ∧ es[i]? = some e ∧ e.born = d ∧ a.findIdx? (fun p => beq k p.1) = some i ∧
  ∀ v x R1, Q v x R1 → wy Q (nU beq a k v) (nU beq l k x) (A ++ (R1 ++ B))
theorem HE {h : Type} (hk : ∀ x : κ, beq x x = true) (g : List (κ × h)) (k : κ) (a b : h) : nU beq (nU beq g k a) k b = nU beq g k b := by
 cases d : g.findIdx? (fun p => beq k p.1) with
 | none =>
  have h1 : (g ++ [(k, a)]).findIdx? (fun p => beq k p.1) = some g.length := by
   rw [gY, d]
   simp [fl, hk]
  rw [uR d, uR d, qG h1]
  simp
 | some i =>
  obtain ⟨p, hp, q⟩ := rG d
  have h1 : (g.set i (k, a)).findIdx? (fun p => beq k p.1) = some i := by
   rw [eK] at d ⊢
   obtain ⟨h1, n, l⟩ := d
   refine ⟨by simpa using h1, by simp [hk], fun j m => ?_⟩
   rw [List.getElem_set_ne (by omega)]
   exact l j m
  rw [qG d, qG d, qG h1]
  simp
end
end Go.Proofs.YtmlncblocfcmiaaGreat
namespace Go.Proofs.YtmlncblocfcmiaaGreat
open Go.RowKit
variable {dd : Bool}
section
variable {κ γ : Type} {Q : Value → γ → List (Nat × Obj) → Prop} {beq : κ → κ → Bool} {kenc : κ → Value}
variable {P : Program} {W : World} {kt : TypeId} {E : Nat → Value} {d : Option Nat} {ty : TypeId} {pos : String} {af : Array Edge} {g : Option (Nat × Bool)} {F : Nat → Prop} {w : World} {μ : kl} {L : List (Nat × Obj)}
theorem DV {es : Array MapEntry} {i : Nat} {f b : MapEntry → MapEntry} (h : ∀ e, es[i]? = some e → f e = b e) : es.modify i f = es.modify i b := by
 apply Array.ext_getElem?
 intro j
 rw [ey, ey]
 split
 ·rename_i a
  subst a
  cases he : es[i]? with
  | none => rfl
  | some e => simp [h e he]
 ·rfl
theorem uC.val {b : List (κ × Value)} {es : Array MapEntry} {clock : Nat} (h : uC kenc (fun x => x) b es clock) {i : Nat} {e : MapEntry} (he : es[i]? = some e) : ∃ p, b[i]? = some p ∧ e.key = kenc p.1 ∧ e.val = p.2 := by
 have a := bN (fun q => q[i]?) h.EB
 simp only [fw, ek, he, eE] at a
 cases hp : b[i]? with
 | none => rw [hp] at a; cases a
 | some p =>
  rw [hp] at a
  simp only [eE, fX, Prod.mk.injEq] at a
  exact ⟨p, rfl, a.1, a.2⟩
theorem KM {Kk : Value → World → Prop} (X : List (Nat × Obj)) {Y R : List (Nat × Obj)} {t e : TypeId} {m x : Operand} {mv z : Value} {x0 : γ} {lv : List (κ × Value)} {l : List (κ × γ)} {k : κ} (hk : ∀ {x y : κ}, beq x y = true ↔ x = y) (K : pk P kt kenc beq) (ht : P.underlying t = some (.map kt e)) (hz : ∀ w, (zeroValue e).run P w = .ok z w) (ad : Q z x0 []) (T : ST dd F w W μ (X ++ (R ++ Y))) (h : mK kenc Q mv lv l R) (hm : jG E m = mv) (hx : jG E x = kenc k) (hK : ∀ W' v st R' R1, ST dd F w W' μ (X ++ (R' ++ (R1 ++ Y))) → Q v ((kV beq l k).getD x0) R1 → Ig beq kenc Q mv l k st R' → Kk (.tuple #[v, .int .i64 (st : Nat)]) W') : nn P E ⟨d, .mapEntry t m x, ty, pos, af, g⟩ W Kk := by
 obtain ⟨Rm, Rv, rfl, ⟨r, es, clock, rfl, rfl, s⟩, O⟩ := h
 have hb : W.heap[r]? = some (.map es clock) := (T.box r (.map es clock) (by simp)).1
 have h5 : (getObj r : Sem Obj).run P W = .ok (.map es clock) W := by simp [getObj, Sem.run, hb]
 have L := K.find k _ _ s.keys W
 rw [s.get k] at L
 have G := O.find (beq := beq) k
 have D : ∀ W' v, (Instr.mapEntry t (.map (some r)) (kenc k)).run P W = .ok v W' → (execOp (jG E) ⟨d, .mapEntry t m x, ty, pos, af, g⟩).run P W = .ok (.value v) W' := by
  intro W' v hr
  show (do pure (.value (← Instr.mapEntry t (jG E m) (jG E x))) : Sem Next).run P W = _
  rw [hm, hx]
  simp [hr]
 have u : ST dd F w W μ (X ++ (r, .map es clock) :: (Rv ++ Y)) := by simpa using T
 cases b : lv.findIdx? (fun p => beq k p.1) with
 | none =>
  rw [b] at L G
  have a := s.put (beq := beq) k z
  rw [b] at a
  refine .inl ⟨_, ChangeMaps.setBlock W r (.map (es.push { key := kenc k, val := z, born := clock }) (clock + 1)), D _ (.tuple #[z, .int .i64 (clock : Nat)]) ?_, hK _ z clock ((r, .map (es.push { key := kenc k, val := z, born := clock }) (clock + 1)) :: (Rv ++ [])) [] ?_ ?_ ?_⟩
  ·simp [Instr.mapEntry, bJ ht, h5, K.check, L, yw hb, hz _, goInt]
  ·have := u.setBlock (.map (es.push { key := kenc k, val := z, born := clock }) (clock + 1))
   simpa using this
  ·rw [Dn G.symm]; exact ad
  ·refine ⟨r, _, _, lv ++ [(k, z)], Rv, [], es.size, { key := kenc k, val := z, born := clock }, rfl, rfl, a, by simp, rfl, ?_, fun v x R1 hq => ?_⟩
   ·rw [gY, b]
    have aa := s.length
    simp [fl, hk, aa]
   ·rw [← uR b, HE (fun x => hk.2 rfl), uR b, uR G.symm]
    simpa using O.push k hq
 | some i =>
  rw [b] at L G
  obtain ⟨p, hp, ab⟩ := rG b
  obtain ⟨q, a8, U⟩ := rG G.symm
  have ag := hk.1 U
  obtain ⟨v, A, R1, B, g1, rfl, g3, g4⟩ := O.get i q.1 q.2 a8
  have a7 : p.2 = v := by rw [g1] at hp; cases hp; rfl
  have aa := s.length
  have ae : i < lv.length := (bK.1 hp).1
  obtain ⟨M, n⟩ : ∃ M, es[i]? = some M := ⟨es[i], Array.getElem?_eq_getElem (by omega)⟩
  obtain ⟨p', a6, I, J⟩ := s.val n
  rw [hp] at a6
  cases a6
  simp only [aA, hp, eE] at L
  have a := s.put (beq := beq) k v
  rw [b] at a
  have Z : ((es[i]?).map (·.key)).getD (kenc k) = kenc k := by
   rw [n]
   simp only [eE, gT, I]
   exact K.eq k p.1 ab
  have a1 : es.modify i (fun e => { e with key := kenc k }) = es.modify i (fun e => { e with key := kenc k, val := v }) := DV fun e he => by
   rw [n] at he; cases he
   rw [← a7, ← J]
  refine .inl ⟨_, ChangeMaps.setBlock W r (.map (es.modify i fun e => { e with key := kenc k, val := v }) clock), D _ (.tuple #[v, .int .i64 (M.born : Nat)]) ?_, hK _ v M.born ((r, .map (es.modify i fun e => { e with key := kenc k, val := v }) clock) :: (A ++ B)) R1 ?_ ?_ ?_⟩
  ·simp only [Instr.mapEntry, cF, bJ ht, h5, K.check, L, bT, Z, Instr.keyThatStays, K.bits, aT, dC]
   rw [yw hb, a1]
   simp [n, goInt, a7]
  ·have := u.setBlock (.map (es.modify i fun e => { e with key := kenc k, val := v }) clock)
   refine this.perm ?_
   simp only [aP, bR]
   refine cE _ (List.Perm.cons _ (cE _ ?_))
   rw [← aP, ← aP]
   exact gH _ fp
  ·rw [Cf G.symm a8]; exact g3
  ·refine ⟨r, _, _, lv.set i (k, v), A, B, i, { M with key := kenc k, val := v }, rfl, rfl, a, ?_, rfl, ?_, fun v2 x2 R2 hq => ?_⟩
   ·rw [ey, bD rfl, n]; rfl
   ·rw [eK] at b ⊢
    obtain ⟨h1, s, O⟩ := b
    refine ⟨by simpa using h1, by simp [hk], fun j hj => ?_⟩
    rw [List.getElem_set_ne (by omega)]
    exact O j hj
   ·rw [← qG b, HE (fun x => hk.2 rfl), qG b, qG G.symm]
    exact g4 k v2 x2 R2 hq
theorem MP {es : Array MapEntry} (h : es.toList.Pairwise (fun a b => a.born < b.born)) {i : Nat} {e : MapEntry} (he : es[i]? = some e) : es.findIdx? (fun a => (a.born : Int) == (e.born : Int)) = some i := by
 rw [Array.findIdx?_eq_some_iff_getElem]
 obtain ⟨g, d⟩ := dQ.1 he
 refine ⟨g, by rw [d]; simp, fun j k => ?_⟩
 have := List.pairwise_iff_getElem.1 h j i (by simpa using Nat.lt_trans k g) (by simpa using g) k
 simp only [Array.getElem_toList] at this
 rw [d] at this
 simp
 omega
theorem Jm {Kk : Value → World → Prop} (X : List (Nat × Obj)) {Y R R1 : List (Nat × Obj)} {t e : TypeId} {m s y : Operand} {Z u : Value} {z : γ} {l : List (κ × γ)} {k : κ} {st : Nat} (hk : ∀ {x y : κ}, beq x y = true ↔ x = y) (K : pk P kt kenc beq) (r : ST dd F w W μ (X ++ (R ++ (R1 ++ Y)))) (h : Ig beq kenc Q Z l k st R) (hm : jG E m = Z) (hs : jG E s = .int .i64 (st : Nat)) (hy : jG E y = u) (hq : Q u z R1) (hK : ∀ W' U R', ST dd F w W' μ (X ++ (R' ++ Y)) → mK kenc Q Z U (nU beq l k z) R' → Kk undef W') : nn P E ⟨d, .entryStore t m s y, ty, pos, af, g⟩ W Kk := by
 obtain ⟨b, es, clock, lv, A, B, i, en, rfl, rfl, L, n, j, O, h3⟩ := h
 have hb : W.heap[b]? = some (.map es clock) := (r.box b (.map es clock) (by simp)).1
 have h5 : (getObj b : Sem Obj).run P W = .ok (.map es clock) W := by simp [getObj, Sem.run, hb]
 obtain ⟨p, hp, M⟩ := rG O
 obtain ⟨p', J, q, T⟩ := L.val n
 rw [hp] at J
 cases J
 have a := L.put (beq := beq) k u
 rw [O] at a
 have I : es.modify i (fun e => { e with val := u }) = es.modify i (fun e => { e with key := kenc k, val := u }) := DV fun e he => by
  rw [n] at he; cases he
  have D : en.key = kenc k := by rw [q]; exact K.eq k p.1 M
  rw [← D]
 have G := MP L.born n
 rw [j] at G
 have v : ST dd F w W μ (X ++ (b, .map es clock) :: (A ++ (B ++ (R1 ++ Y)))) := by simpa using r
 refine .inr (.inl ⟨ChangeMaps.setBlock W b (.map (es.modify i fun e => { e with key := kenc k, val := u }) clock), ?_, hK _ (nU beq lv k u) ((b, .map (es.modify i fun e => { e with key := kenc k, val := u }) clock) :: (A ++ (R1 ++ B))) ?_ ⟨[(b, .map (es.modify i fun e => { e with key := kenc k, val := u }) clock)], A ++ (R1 ++ B), rfl, ⟨b, _, _, rfl, rfl, ?_⟩, h3 u z R1 hq⟩⟩)
 ·show (do Instr.entryStore t (jG E m) (jG E s) (jG E y); pure .skip : Sem Next).run P W = _
  rw [hm, hs, hy]
  simp only [Instr.entryStore, cF, h5, bT, asInt, asIntOf, dC, G]
  rw [yw hb, I]
  rfl
 ·have := v.setBlock (.map (es.modify i fun e => { e with key := kenc k, val := u }) clock)
  refine this.perm ?_
  simp only [aP, bR]
  refine cE _ (List.Perm.cons _ (cE _ ?_))
  rw [← aP, ← aP]
  exact gH _ fp
 ·rw [qG O]; exact a
end
end Go.Proofs.YtmlncblocfcmiaaGreat
namespace Go.Proofs.YtmlncblocfcmiaaGreat
open Go.RowKit
variable {dd : Bool}
section
variable {κ γ : Type} {Q : Value → γ → List (Nat × Obj) → Prop} {beq : κ → κ → Bool} {kenc : κ → Value}
def lR (kenc : κ → Value) (Q : Value → γ → List (Nat × Obj) → Prop) (v : Value) (l : List (κ × γ)) (R : List (Nat × Obj)) : Prop := ∃ a, mK kenc Q v a l R
def tJ (kenc : κ → Value) (Q : Value → γ → List (Nat × Obj) → Prop) (μ : kl) (v : Value) (l : List (κ × γ)) : Prop := ∃ a R, mK kenc Q v a l R ∧ ∀ b o, (b, o) ∈ R → μ b = some o
theorem lR.at {v : Value} {l : List (κ × γ)} {R : List (Nat × Obj)} {μ : kl} (h : lR kenc Q v l R) (a : ∀ b o, (b, o) ∈ R → μ b = some o) : tJ kenc Q μ v l := let ⟨d, h⟩ := h; ⟨d, R, h, a⟩
theorem tJ.mono {v : Value} {l : List (κ × γ)} {μ μ' : kl} (h : tJ kenc Q μ v l) (g : kd μ μ') : tJ kenc Q μ' v l := let ⟨i, R, h, a⟩ := h; ⟨i, R, h, fun b o d => g _ _ (a b o d)⟩
theorem mK.form {v : Value} {a : List (κ × Value)} {l : List (κ × γ)} {R : List (Nat × Obj)} (h : mK kenc Q v a l R) : ∃ m, v = .map (some m) := let ⟨_, _, _, h, _⟩ := h; h.form
theorem mK.e {v : Value} {a : List (κ × Value)} {l : List (κ × γ)} {R : List (Nat × Obj)} (h : mK kenc Q v a l R) : lR kenc Q v l R := ⟨a, h⟩
theorem lR.form {v : Value} {l : List (κ × γ)} {R : List (Nat × Obj)} (h : lR kenc Q v l R) : ∃ m, v = .map (some m) := let ⟨_, h⟩ := h; h.form
theorem lR.new {v : Value} {R : List (Nat × Obj)} (h : lL (β := Value) kenc (fun x => x) v [] R) : lR kenc Q v [] R := ⟨[], R, [], (bH R).symm, h, rfl⟩
theorem mK.rowAt {α : Type} {e : TypeId} {enc : α → List Value} {n : Nat} {i : Value} {d : List (κ × Value)} {l : List (κ × List α)} {R : List (Nat × Obj)} (hk : ∀ {x y : κ}, beq x y = true → x = y) (h : mK kenc (jT e enc n) i d l R) (k : κ) :
  ∃ R1, jT e enc n (qY beq d k (.slice none 0 0)) ((kV beq l k).getD []) R1 ∧ ∀ b o, (b, o) ∈ R1 → (b, o) ∈ R := by
 cases a : kV beq l k with
 | none => refine ⟨[], ?_, fun b o h => by cases h⟩; rw [qY, h.Lt a]; exact .inl ⟨rfl, rfl, rfl⟩
 | some x =>
  obtain ⟨v, A, R1, B, g1, rfl, g3, _⟩ := h.found hk a
  refine ⟨R1, ?_, fun b o g => by simp [g]⟩
  rw [qY, g1]; exact g3
theorem jT.DP {α : Type} {e : TypeId} {enc : α → List Value} {k : Nat} {v : Value} {l : List α} {R : List (Nat × Obj)} (h : jT e enc k v l R) (hk : ∀ x, (enc x).length = k) : Sl (Pl enc) k (zV R) v l := by
 refine h.sl hk (fun b o a => ?_)
 rcases h with ⟨rfl, rfl, rfl⟩ | ⟨g, cap, cur, rfl, rfl, _⟩
 ·cases a
 ·simp at a; obtain ⟨rfl, rfl⟩ := a; simp [zV]
end
theorem ny.hp (W : World) : ny (hp W) [] W := ⟨fun _ _ h => h, fun _ _ h => by cases h⟩
section
variable {P : Program} {W : World} {E : Nat → Value} {d : Option Nat} {ty : TypeId} {pos : String} {af : Array Edge} {g : Option (Nat × Bool)} {F : Nat → Prop} {w : World} {μ : kl} {L : List (Nat × Obj)}
theorem Gf {t k e : TypeId} (dd : Nat) (b : P.underlying t = some (.map k e)) (a : Option Nat) (W : World) : (Op.equalIn (dd + 1) t (.map a) (.map none)).run P W = .ok a.isNone W := by
 cases a <;> simp [Op.equalIn, bJ b]
theorem Lw {a n k e : TypeId} {x y : Operand} {r : Option Nat} {b : Bool} (j : P.underlying a = some (.map k e)) (l : jG E x = .map r) (m : jG E y = .map none) (i : r.isNone = b) :
  lQ P E ⟨d, .binOp .eql a x y n, ty, pos, af, g⟩ W (.bool b) W := by
 subst i
 show (do let r ← (do eqGuard .eql a x y (jG E x) (jG E y); binOp .eql a (jG E x) (jG E y)); pure (.value r) : Sem Next).run P W = _
 rw [l, m]
 have h := Gf 9999 j r W
 simp [eqGuard, binOp, Op.equal, show Op.maxDepth = 9999 + 1 from rfl, h]
theorem JP {κ κ2 β : Type} {kenc : κ → Value} {kenc2 : κ2 → Value} {vf : β → Value} {beq : κ → κ → Bool} {b q kt e : TypeId} {x y : Operand} {p : Value} {a : List (κ × Value)} {l : List (κ × List (κ2 × β))} {R : List (Nat × Obj)} {k : κ} (hk : ∀ {x y : κ}, beq x y = true → x = y) (j : P.underlying b = some (.map kt e)) (h : mK kenc (lL kenc2 vf) p a l R) (m : jG E x = qY beq a k (.map none)) (n : jG E y = .map none) :
  lQ P E ⟨d, .binOp .eql b x y q, ty, pos, af, g⟩ W (.bool (kV beq l k).isNone) W := by
 obtain ⟨r, h1, i⟩ := h.isNil hk k
 exact Lw j (m.trans h1) n i
theorem CS {κ γ : Type} {b : Value → World → Prop} {t : TypeId} (kenc : κ → Value) (Q : Value → γ → List (Nat × Obj) → Prop) (a : ST dd F w W μ L) (i : ∀ W' v R, ST dd F w W' μ (R ++ L) → lR kenc Q v [] R → b v W') : nn P E ⟨d, .makeMap t none, ty, pos, af, g⟩ W b :=
 Hz kenc (fun x : Value => x) a (fun W' v R h1 h => i W' v R h1 (lR.new h))
end
def qc {α : Type} (e : TypeId) (enc : α → List Value) (k : Nat) (v : Value) (l : List α) (R : List (Nat × Obj)) : Prop :=
 (v = .slice none 0 0 ∧ l = [] ∧ R = []) ∨
 ∃ g off cap cur, v = .slice (some ⟨g, off, none⟩) l.length cap ∧ R = [(g, .cells cur e (0, 0))] ∧ l.length ≤ cap ∧ cap ≤ maxLen ∧ off + cap * k ≤ cur.size ∧ (cur.toList.drop off).take (l.length * k) = (l.map enc).flatten
section
variable {α : Type} {e : TypeId} {enc : α → List Value} {k : Nat} {v : Value} {l : List α} {R : List (Nat × Obj)}
theorem qc.nil (e : TypeId) (enc : α → List Value) (k : Nat) : qc e enc k (.slice none 0 0) [] [] := .inl ⟨rfl, rfl, rfl⟩
theorem jT.Ru (h : jT e enc k v l R) : qc e enc k v l R := by
 rcases h with h | ⟨g, cap, cur, h1, a, b, d, j, i⟩
 ·exact .inl h
 ·exact .inr ⟨g, 0, cap, cur, h1, a, b, d, by omega, by simpa using i⟩
theorem qc.len (h : qc e enc k v l R) : l.length ≤ 9223372036854775807 := by
 rcases h with ⟨rfl, rfl, rfl⟩ | ⟨g, off, cap, cur, rfl, rfl, h1, a, _⟩
 ·simp
 ·unfold maxLen at a; omega
theorem qc.form (h : qc e enc k v l R) : ∃ A c, v = .slice A l.length c := by
 rcases h with ⟨rfl, rfl, rfl⟩ | ⟨g, off, cap, cur, rfl, rfl, _⟩
 ·exact ⟨_, _, rfl⟩
 ·exact ⟨_, _, rfl⟩
theorem qc.DP (h : qc e enc k v l R) (hk : ∀ x, (enc x).length = k) : Sl (Pl enc) k (zV R) v l := by
 rcases h with ⟨rfl, rfl, rfl⟩ | ⟨g, off, cap, cur, rfl, rfl, h1, b, p, d⟩
 ·exact Sl.nil _ _ _
 ·refine ⟨_, cap, rfl, h1, b, fun _ => ⟨g, off, cur, e, (0, 0), rfl, by simp [zV], fun i x m => ⟨enc x, hk x, rfl, fun j y n => ?_⟩⟩⟩
  have := wE hk l i x m j y n
  rw [← d] at this
  have a : i * k + j < l.length * k := by
   have := (bK.1 this).1
   simp at this; omega
  rw [dL a, dM] at this
  simpa [ev] using this
variable {P : Program} {W : World} {E : Nat → Value} {d : Option Nat} {ty : TypeId} {pos : String} {af : Array Edge} {g : Option (Nat × Bool)} {F : Nat → Prop} {w : World} {μ : kl} {L : List (Nat × Obj)}
theorem M4 {x : Operand} {t a : TypeId} (b : P.underlying t = some (.slice a)) (i : jG E x = v) (h : qc e enc k v l R) : lQ P E ⟨d, .call ⟨.builtin .len, #[x], #[t]⟩, ty, pos, af, g⟩ W (.int .i64 l.length) W := by
 obtain ⟨A, c, rfl⟩ := h.form
 exact Aq b i
theorem Lm {t p : TypeId} {x m : Operand} {J : IntKind} {i : Int} (y : P.underlying t = some (.slice p)) (he : ∀ w, (sizeOf p).run P w = .ok k w) (z : jG E x = v) (r : jG E m = .int J i) (hk : ∀ x, (enc x).length = k) (h : qc e enc k v l R) (A : 0 ≤ i) (s : i ≤ l.length) :
  ∃ u, qc e enc k u (l.drop i.toNat) R ∧ ∀ W, lQ P E ⟨d, .slice t x (some m) none none, ty, pos, af, g⟩ W u W := by
 rcases h with ⟨rfl, rfl, rfl⟩ | ⟨j, off, cap, cur, rfl, rfl, h1, L, M, D⟩
 ·have : i = 0 := by simp at s; omega
  subst this
  refine ⟨.slice none 0 0, by simpa using qc.nil e enc k, fun W => ?_⟩
  show (do pure (.value (← Instr.sliceAt t (jG E x) (some (jG E m)) none none)) : Sem Next).run P W = _
  rw [z, r]
  simp [Instr.sliceAt, Instr.slice, Instr.sliceBounds, Instr.sliceBound, asIntOf, bJ y, he W]
 ·refine ⟨.slice (some (if cap = i.toNat then ⟨j, off, none⟩ else (Addr.add ⟨j, off, none⟩ (i.toNat * k)))) (l.length - i.toNat) (cap - i.toNat), .inr ?_, fun W => ?_⟩
  ·have a : (l.drop i.toNat).length = l.length - i.toNat := by simp
   have b : (l.map enc).flatten.drop (i.toNat * k) = ((l.drop i.toNat).map enc).flatten := by
    have F : l = l.take i.toNat ++ l.drop i.toNat := (fq _ _).symm
    have G : ((l.take i.toNat).map enc).flatten.length = i.toNat * k := by rw [pL hk, dF, dZ (by omega)]
    conv => lhs; rw [F, cL, cT]
    rw [← G, List.drop_left]
   by_cases q : cap = i.toNat
   ·rw [bD q]
    have n : l.drop i.toNat = [] := List.drop_eq_nil_of_le (by omega)
    refine ⟨j, off, cap - i.toNat, cur, by rw [n]; simp; omega, rfl, by rw [n]; simp, by omega, by have : (cap - i.toNat) * k ≤ cap * k := cO _ (by omega); omega, by rw [n]; simp⟩
   ·rw [bI q]
    refine ⟨j, off + i.toNat * k, cap - i.toNat, cur, by rw [a, dU], rfl, by rw [a]; omega, by omega, ?_, ?_⟩
    ·have : i.toNat * k + (cap - i.toNat) * k = cap * k := by rw [← cR]; congr 1; omega
     omega
    ·rw [a, ← b, ← D, iC, List.drop_drop, Nat.sub_mul]
  ·show (do pure (.value (← Instr.sliceAt t (jG E x) (some (jG E m)) none none)) : Sem Next).run P W = _
   rw [z, r]
   have I : 0 ≤ i ∧ i ≤ (l.length : Int) := ⟨A, s⟩
   simp [Instr.sliceAt, Instr.slice, Instr.sliceBounds, Instr.sliceBound, asIntOf, bJ y, he W, I]
   split <;> rfl
theorem JJ {K : Value → World → Prop} {t : TypeId} {a1 : Nat} {z vs : Value} {m r : List α} (X : List (Nat × Obj)) {Y : List (Nat × Obj)} {x y : Operand} {i : TypeInfo} (a6 : ST dd F w W μ (X ++ (R ++ Y))) (hk : ∀ x, (enc x).length = k) (aj : 0 < k) (h1 : ∀ x, ∀ u ∈ enc x, u.oneCell' = true) (Z : P.underlying t = some (.slice e)) (hi : P.info? e = some i) (hz : i.zero = some z) (aa : z.cells.size = k) (U : i.size = k) (a7 : i.bytes = a1) (hx : jG E x = v) (hy : jG E y = vs) (hR : qc e enc k v l R) (hs : Sl (Pl enc) k (hp W) vs m) (hb : mu a1 l m = some r) (h : ∀ W' v' R', ST dd F w W' μ (X ++ (R' ++ Y)) → qc e enc k v' r R' → K v' W') : nn P E ⟨d, .call ⟨.builtin .append, #[x, y], #[t, t]⟩, ty, pos, af, g⟩ W K := by
 rcases hR with ⟨rfl, rfl, rfl⟩ | ⟨p, off, cap, cur, rfl, rfl, h2, h3, h4, h5⟩
 ·exact Jf X a6 hk aj h1 Z hi hz aa U a7 hx hy (jT.nil e enc k) hs hb (fun W' v' R' a b => h W' v' R' a b.Ru)
 unfold mu at hb
 split at hb
 case isFalse => cases hb
 rename_i Q
 cases hb
 have O : ∀ (V : Value) (W' : World), (Builtin.append_ #[t, t] ty #[.slice (some ⟨p, off, none⟩) l.length cap, vs]).run P W = .ok V W' → (execOp (jG E) ⟨d, .call ⟨.builtin .append, #[x, y], #[t, t]⟩, ty, pos, af, g⟩).run P W = .ok (.value V) W' := by
  intro V W' hV
  show (do let d ← resolve (jG E) ⟨.builtin .append, #[x, y], #[t, t]⟩ ty; invoke d.target d.args : Sem Next).run P W = _
  simp [resolve, invoke, builtin, hx, hy, hV]
 obtain ⟨A, c, rfl, an, ao, ag⟩ := hs
 have I : ST dd F w W μ (X ++ (p, .cells cur e (0, 0)) :: Y) := by simpa using a6
 have hg : W.heap[p]? = some (.cells cur e (0, 0)) := (I.box p _ (by simp)).1
 have G := pL hk l
 have M : ∀ u ∈ (m.map enc).flatten, u.oneCell' = true := by
  intro u hu
  obtain ⟨ys, al, ak⟩ := iS.1 hu
  obtain ⟨x, _, rfl⟩ := bL.1 al
  exact h1 x u ak
 have D : Src P i.size t (.slice A m.length c) m.length ((m.map enc).flatten) W := by
  rw [U]
  rcases eU m.length with h0 | h0
  ·have hm : m = [] := aU h0
   subst hm
   cases A with
   | none => exact Src.ofNil W Z c
   | some ad => exact Src.ofSlice W Z ad 0 c [] (by simp) (fun j u hu => by simp at hu) (fun u hu => by cases hu)
  ·obtain ⟨b, o, cs, T, fr, rfl, h6, h7⟩ := ag h0
   refine Src.ofSlice W Z _ _ c _ (pL hk m) (fun j u hu => ?_) M
   obtain ⟨i, x, q, h8, h9, rfl⟩ := Fm hk m j u hu
   obtain ⟨ys, _, ab, ae⟩ := h7 i x h8
   cases ab
   rw [dU, gz W b (o + (i * k + q)) cs T fr h6, ← ev]
   exact ae q u h9
 have n := pL hk m
 have L : ((l ++ m).map enc).flatten = (l.map enc).flatten ++ (m.map enc).flatten := by simp
 generalize (m.map enc).flatten = fm at D M n L
 subst U
 have ap : l.length * i.size ≤ cap * i.size := cO _ h2
 by_cases s : l.length + m.length ≤ cap
 ·have aq : l.length * i.size + m.length * i.size ≤ cap * i.size := by rw [← cR]; exact cO _ s
  have a8 := iH (P := P) p (off + l.length * i.size) e fm 0 cur W hg (by rw [n]; omega) M
  have J : (Builtin.append_ #[t, t] ty #[.slice (some ⟨p, off, none⟩) l.length cap, .slice A m.length c]).run P W = .ok (.slice (some ⟨p, off, none⟩) (l.length + m.length) cap) (W.setRow p (cur.toList.take (off + l.length * i.size) ++ fm ++ cur.toList.drop (off + l.length * i.size + fm.length)).toArray) := by
   simp [Builtin.append_, bJ Z, sizeOf, typeInfo, hi, D.len, s, D.cells, dU]
   simp only [gG] at a8
   rw [a8]
   simp
  refine .inl ⟨_, _, O _ _ J, h _ _ [(p, _)] (by simpa using I.store _) (.inr ⟨p, off, cap, _, by rw [aF], rfl, by simpa using s, h3, ?_, ?_⟩)⟩
  ·simp only [ew, aF, dF, gS, dO, n]
   rw [dZ (by omega)]
   omega
  ·have hA : (cur.toList.take (off + l.length * i.size)).length = off + l.length * i.size := by simp; omega
   show ((cur.toList.take (off + l.length * i.size) ++ (fm ++ cur.toList.drop (off + l.length * i.size + fm.length))).drop off).take ((l ++ m).length * i.size) = _
   rw [L, List.drop_append, iC, hA, show off - (off + l.length * i.size) = 0 by omega, List.drop_zero, show off + l.length * i.size - off = l.length * i.size by omega, h5]
   rw [aF, cR, fI, fI, G, n, dW (by rw [G]; omega), show l.length * i.size + m.length * i.size - l.length * i.size = m.length * i.size by omega, dW (by rw [n]; omega)]
   simp
 ·have hold : (Builtin.firstCells i.size l.length (.slice (some ⟨p, off, none⟩) l.length cap)).run P W.drew = .ok ((l.map enc).flatten).toArray W.drew := by
   refine run_firstCells_some W.drew i.size l.length ⟨p, off, none⟩ l.length cap _ G (fun j u hu => ?_)
   rw [dU]
   show W.cell? ⟨p, off + j, none⟩ = some u
   rw [gz W p (off + j) cur e (0, 0) hg]
   rw [← h5] at hu
   have hj : j < l.length * i.size := by have := (bK.1 hu).1; simp at this; omega
   rw [dL hj, dM] at hu
   simpa using hu
  have hlen : (l ++ m).length = l.length + m.length := aF
  have ai := grownCap_ge W (l.length + m.length) cap e
  have ah := grownCap_le_maxLen W (l.length + m.length) cap e Q.2
  have J := run_append_grow_src (P := P) W t t ty e i z Z hi hz (some ⟨p, off, none⟩) l.length cap ((l.map enc).flatten) hold _ m.length _ D (by omega) (by have := Q.2; unfold maxLen at this; omega) (growslice_fits (by omega) (by rw [a7]; exact Q.1))
  have h6 := I.drew.alloc (.cells (((l.map enc).flatten ++ fm).toArray ++ Builtin.zeroCells z.cells (grownCap W (l.length + m.length) cap e - (l.length + m.length))) e (0, 0))
  have h7 := (ST.drop (A := (W.drew.heap.size, _) :: X) h6).perm (L' := X ++ ([(W.heap.size, _)] ++ Y)) (by simpa using (fH (a := (W.heap.size, _)) (l₁ := X) (l₂ := Y)).symm)
  refine .inl ⟨_, _, O _ _ J, h _ _ _ h7 (jT.Ru (.inr ⟨W.heap.size, grownCap W (l.length + m.length) cap e, _, by rw [hlen], rfl, by rw [hlen]; exact ai, ah, ?_, ?_⟩))⟩
  ·rw [Array.size_append, size_zeroCells, aa]
   simp only [ew, aF, G, n]
   rw [← cR, ← cR]
   congr 1
   omega
  ·rw [Array.toList_append, List.toList_toArray, hlen, L, gZ (by simp only [aF, G, n]; rw [cR]; exact aY _), dW (by simp only [aF, G, n]; rw [cR]; exact aY _)]
end
end Go.Proofs.YtmlncblocfcmiaaGreat
namespace Go.Proofs.YtmlncblocfcmiaaGreat
open Go.RowKit
section
variable {P : Program} {ops : Array Oper} {Q : Exit → Act → World → Prop} {S : Array Bool → World → Prop}
def xl (ops : Array Oper) (l : Array Bool) : Prop := ∀ j o, ops[j]? = some o → l.getD j true = true → ∀ e ∈ o.after, Region.binds .any e = true → l.getD e.on true = true
def FM (ops : Array Oper) : Nat → List Nat → Bool
 | _, [] => true
 | j, k :: r => (match ops[j]? with | some o => o.after.any (fun e => Region.binds .any e && e.on == k) | none => false) && FM ops k r
theorem Gl {l : Array Bool} (d : xl ops l) : ∀ (r : List Nat) (j i : Nat), FM ops j r = true → (j :: r).getLast? = some i → l.getD j true = true → l.getD i true = true
 | [], j, i, _, h, a => by simp at h; subst h; exact a
 | k :: r, j, i, h, m, a => by
  simp only [FM, bF] at h
  obtain ⟨h1, g⟩ := h
  cases b : ops[j]? with
  | none => rw [b] at h1; cases h1
  | some o =>
   rw [b] at h1
   simp only [Array.any_eq_true] at h1
   obtain ⟨n, p, h1⟩ := h1
   simp only [bF, gb] at h1
   have := d j o b a o.after[n] (Array.getElem_mem p) h1.1
   rw [h1.2] at this
   exact Gl d r k i g (by simpa [List.getLast?_cons_cons] using m) this
def Fx (ops : Array Oper) (i : Nat) (l : Array Bool) : Prop := xl ops l ∧ l.getD i true = false
theorem Fx.Dg {l : Array Bool} {i : Nat} (h : Fx ops i l) (j : Nat) (r : List Nat) (a : FM ops j r = true) (d : (j :: r).getLast? = some i) : l.getD j true = false := by
 cases b : l.getD j true with
 | false => rfl
 | true => have := Gl h.1 r j i a d b; rw [h.2] at this; cases this
theorem xl.start (n : Nat) (h : n = ops.size) : xl ops (Array.replicate n false) := by
 subst h
 intro j o d b
 have a : j < ops.size := (dQ.1 d).1
 simp [a] at b
theorem xl.set {l : Array Bool} {i : Nat} (h : xl ops l) (r : i ∈ Region.ready .any ops l) : xl ops (l.setIfInBounds i true) := by
 intro j o q p e he n
 have up : ∀ {k : Nat}, l.getD k true = true → (l.setIfInBounds i true).getD k true = true := fun {k} hk => by
  by_cases d : i = k
  ·subst d
   by_cases m : i < l.size
   ·simp [m]
   ·simp [m]
  ·rw [jg true d]; exact hk
 by_cases b : i = j
 ·subst b
  obtain ⟨_, s, g, a⟩ := jl.1 r
  rw [q] at g
  cases g
  refine up ?_
  have := a e he n
  by_cases m : e.on < l.size
  ·simp [m] at this ⊢; exact this
  ·simp [m]
 ·rw [jg true b] at p
  exact up (h j o q p e he n)
def B5 (P : Program) (ops : Array Oper) (S : Array Bool → World → Prop) (i : Nat) (o : Oper) (v : Value) (a : Act) : Prop :=
 (Region.wanted o (yielded ops a.tmps) = true ∧ ∀ l w, Fx ops i l → S l w → (execOp a.eval o).run P w = .ok (.value v) w) ∨
 (Region.wanted o (yielded ops a.tmps) = false ∧ v = undef)
theorem B5.Ri {i : Nat} {o : Oper} {v : Value} {a : Act} {l : Array Bool} (h : B5 P ops S i o v a) (hp : Fx ops i l) : YieldsIf P ops (S l) o v a :=
 h.imp (fun ⟨h1, b⟩ => ⟨h1, fun w hw => b l w hp hw⟩) id
def JZ (P : Program) (ops : Array Oper) (Q : Exit → Act → World → Prop) (S : Array Bool → World → Prop) : Nat → Array Bool → Act → World → Prop
 | 0, l, a, w => Region.ready .any ops l = [] ∧ Q .normal a w
 | n + 1, l, a, w => (Region.ready .any ops l = [] → Q .normal a w) ∧
  ∀ i ∈ Region.ready .any ops l, wpOp P ops Q i (fun d b => S (l.setIfInBounds i true) b ∧ JZ P ops Q S n (l.setIfInBounds i true) d b) a w
theorem J2 : ∀ (n : Nat) (l : Array Bool) (a : Act) (w : World), JZ P ops Q S n l a w → wpAny P .any ops Q n l a w
 | 0, _, _, _, h => h
 | n + 1, _, _, _, h => ⟨h.1, fun i g => wpOp_mono (fun b j d => J2 n _ b j d.2) (h.2 i g)⟩
theorem MH {i j : Nat} {d q : Oper} {v : Value} (u : ops[j]? = some q) (m : d.apart ops q = true) (n : ∀ cs b, d.op ≠ .select cs b) (p : ∀ cs b, q.op ≠ .select cs b) (t : ∀ c a w, Q (.panic c) (a.put d.dst v) w → Q (.panic c) a w) {K : Act → World → Prop} {a : Act} {w : World} (x : B5 P ops S i d v a) (h : wpOp P ops Q j K (a.put d.dst v) w) :
  wpOp P ops Q j (fun g s => B5 P ops S i d v g ∧ K (g.put d.dst v) s) a w := by
 have h1 : YieldsIf P ops (fun w => ∃ l, Fx ops i l ∧ S l w) d v a := x.imp (fun ⟨h1, k⟩ => ⟨h1, fun w ⟨l, hp, hw⟩ => k l w hp hw⟩) id
 refine wpOp_mono (fun g s r => ⟨r.1.imp (fun ⟨h1, k⟩ => ⟨h1, fun l w hp hw => k w ⟨l, hp, hw⟩⟩) id, r.2⟩) (wpOp_putIf (S := fun w => ∃ l, Fx ops i l ∧ S l w) u m n p t h1 h)
theorem HK {i : Nat} {x : Oper} {v : Value} (R : ops[i]? = some x) (s : ∀ (j : Nat) (o : Oper) cs b, ops[j]? = some o → o.op ≠ .select cs b) (hQ : ∀ c a w, Q (.panic c) (a.put x.dst v) w → Q (.panic c) a w) (hm : ∀ l w, S (l.setIfInBounds i true) w → S l w) :
  ∀ (n : Nat) (l : Array Bool) (a : Act) (w : World), (∀ j y, ops[j]? = some y → j ≠ i → l.getD j true = false → (∀ e ∈ y.after, Region.binds .any e = true → e.on ≠ i) → x.apart ops y = true) →
   xl ops l → i ∈ Region.ready .any ops l → B5 P ops S i x v a → S (l.setIfInBounds i true) w → JZ P ops Q S n (l.setIfInBounds i true) (a.put x.dst v) w → JZ P ops Q S (n + 1) l a w := by
 intro n
 induction n with
 | zero =>
  intro l a w _ I q J z H
  refine ⟨fun h => (by rw [h] at q; cases q), fun j D => ?_⟩
  by_cases d : j = i
  ·subst d
   exact (J.Ri ⟨I, (jl.1 q).1⟩).wpOp R (hm l w z) ⟨z, H⟩
  ·have := ready_mono D d
   rw [H.1] at this
   cases this
 | succ n ih =>
  intro l a w m I q J z H
  refine ⟨fun h => (by rw [h] at q; cases q), fun j D => ?_⟩
  by_cases d : j = i
  ·subst d
   exact (J.Ri ⟨I, (jl.1 q).1⟩).wpOp R (hm l w z) ⟨z, H⟩
  have h1 := H.2 j (ready_mono D d)
  obtain ⟨r, y, u, A⟩ := jl.1 D
  have F : ∀ e ∈ y.after, Region.binds .any e = true → e.on ≠ i := fun e he hb O => by
   have t := A e he hb
   have Y := (jl.1 q).1
   rw [O] at t
   rcases Nat.lt_or_ge i l.size with L | L
   ·simp [L] at Y t; rw [Y] at t; cases t
   ·simp [Array.getElem?_eq_none L] at t
  have t := MH u (m j y u d r F) (fun cs b => s i x cs b R) (fun cs b => s j y cs b u) hQ J h1
  have p : ∀ k ok, ops[k]? = some ok → k ≠ i → (l.setIfInBounds j true).getD k true = false → (∀ e ∈ ok.after, Region.binds .any e = true → e.on ≠ i) → x.apart ops ok = true := fun k ok hk T G U => by
   refine m k ok hk T ?_ U
   by_cases E : j = k
   ·subst E; exact r
   ·rw [jg true E] at G; exact G
  have g : (l.setIfInBounds i true).setIfInBounds j true = (l.setIfInBounds j true).setIfInBounds i true := Array.setIfInBounds_comm _ _ (Ne.symm d)
  refine wpOp_mono (fun a' W M => ?_) t
  have Z : S ((l.setIfInBounds j true).setIfInBounds i true) W := by rw [← g]; exact M.2.1
  refine ⟨hm _ W Z, ih (l.setIfInBounds j true) a' W p (I.set D) (ready_mono q (Ne.symm d)) M.1 Z ?_⟩
  rw [← g]
  exact M.2.2
end
def PX (P : Program) (n : Nat) (ops : Array Oper) (Q : qF) (S : Array Bool → World → Prop) (fuel : Nat) (listed : Array Bool) (E : Nat → Value) (W : World) : Prop :=
 xl ops listed → ∀ a, Ag n a E → JZ P ops (lift n Q) S fuel listed a W
section
variable {P : Program} {n : Nat} {Q : qF} {E : Nat → Value} {W : World} {ops : Array Oper} {S : Array Bool → World → Prop} {fuel : Nat} {listed : Array Bool}
theorem Jy {id : Nat} {l : List Oper} (S : Array Bool → World → Prop) (hm : P.follows .mixedOrders = true) (h : PX P n l.toArray Q S l.length (Array.replicate l.length false) E W.drew) : CW P n (.region id l.toArray true) Q E W := fun a ha =>
 wp_region_any hm (J2 _ _ _ _ (h (xl.start _ (by simp)) a ha))
def Bm (ops : Array Oper) (listed : Array Bool) (i : Nat) : Bool := Region.noSelect ops && Region.free .any ops listed i && (Region.ready .any ops listed).contains i
theorem kO {o : Oper} {dd : Nat} {v : Value} (i : Nat) (g : ops[i]? = some o) (hk : Bm ops listed i = true) (hw : sN n ops E o) (m : o.dst = some dd) (p : dd < n) (hm : ∀ l w, S (l.setIfInBounds i true) w → S l w) (k : S (listed.setIfInBounds i true) W) (q : ∀ l W, Fx ops i l → S l W → lQ P E o W v W) (h : PX P n ops Q S fuel (listed.setIfInBounds i true) (nQ E dd v) W) : PX P n ops Q S (fuel + 1) listed E W := fun d a ha => by
 simp only [Bm, bF] at hk
 have j : i ∈ Region.ready .any ops listed := by simpa using hk.2
 exact HK g (Region.noSelect_spec hk.1.1) (fun _ _ _ h => h) hm fuel listed a W (Region.free_spec g hk.1.2) d j (.inl ⟨hw.of ha, fun l w hp b => by rw [ha.eval]; exact q l w hp b⟩) k (by rw [m]; exact h (d.set j) _ (ha.put p v))
theorem sn {A : Value → Prop} {o : Oper} {dd : Nat} (i : Nat) (g : ops[i]? = some o) (hk : Bm ops listed i = true) (hw : sN n ops E o) (d : o.dst = some dd) (j : dd < n) (hm : ∀ l w, S (l.setIfInBounds i true) w → S l w) (b : S (listed.setIfInBounds i true) W) (k : ∃ p, A p ∧ ∀ W, lQ P E o W p W) (h : ∀ p, A p → PX P n ops Q S fuel (listed.setIfInBounds i true) (nQ E dd p) W) : PX P n ops Q S (fuel + 1) listed E W := by
 obtain ⟨p, h1, a⟩ := k
 exact kO i g hk hw d j hm b (fun _ W _ _ => a W) (h p h1)
theorem Ku {o : Oper} {dd : Nat} (i : Nat) (d : ops[i]? = some o) (hk : Bm ops listed i = true) (hw : ∀ a, Ag n a E → Region.wanted o (yielded ops a.tmps) = false) (k : o.dst = some dd) (m : dd < n) (hm : ∀ l w, S (l.setIfInBounds i true) w → S l w) (j : S (listed.setIfInBounds i true) W) (h : PX P n ops Q S fuel (listed.setIfInBounds i true) (nQ E dd undef) W) : PX P n ops Q S (fuel + 1) listed E W := fun b a ha => by
 simp only [Bm, bF] at hk
 have g : i ∈ Region.ready .any ops listed := by simpa using hk.2
 exact HK d (Region.noSelect_spec hk.1.1) (fun _ _ _ h => h) hm fuel listed a W (Region.free_spec d hk.1.2) b g (.inr ⟨hw a ha, rfl⟩) j (by rw [k]; exact h (b.set g) _ (ha.put m _))
theorem Q6 {o : Oper} {dd j t : Nat} {want : Bool} (i : Nat) (m : ops[i]? = some o) (hk : Bm ops listed i = true) (k : o.guard = some (j, want)) (p : (ops[j]?).bind (·.dst) = some t) (r : t < n) (b : E t = .bool (!want)) (g : o.dst = some dd) (q : dd < n) (hm : ∀ l w, S (l.setIfInBounds i true) w → S l w) (d : S (listed.setIfInBounds i true) W) (h : PX P n ops Q S fuel (listed.setIfInBounds i true) (nQ E dd undef) W) : PX P n ops Q S (fuel + 1) listed E W :=
 Ku i m hk (fun a ha => by have s := ha.yield p r b; simp [Region.wanted, k, s]) g q hm d h
theorem Pv {o : Oper} {dd j t : Nat} {want : Bool} (i : Nat) (m : ops[i]? = some o) (hk : Bm ops listed i = true) (k : o.guard = some (j, want)) (p : (ops[j]?).bind (·.dst) = some t) (r : t < n) (b : E t = undef) (g : o.dst = some dd) (q : dd < n) (hm : ∀ l w, S (l.setIfInBounds i true) w → S l w) (d : S (listed.setIfInBounds i true) W) (h : PX P n ops Q S fuel (listed.setIfInBounds i true) (nQ E dd undef) W) : PX P n ops Q S (fuel + 1) listed E W :=
 Ku i m hk (fun a ha => by have s := ha.GL p r b; simp [Region.wanted, k, s]) g q hm d h
theorem PK {o : Oper} {dd : Nat} (i : Nat) (s : ops[i]? = some o) (g : Region.ready .any ops listed = [i]) (hw : sN n ops E o) (l : o.dst = some dd) (m : dd < n) (h : nn P E o W fun v W' => S (listed.setIfInBounds i true) W' ∧ PX P n ops Q S fuel (listed.setIfInBounds i true) (nQ E dd v) W') : PX P n ops Q S (fuel + 1) listed E W := fun k a ha => by
 have b : i ∈ Region.ready .any ops listed := by rw [g]; simp
 refine ⟨fun r => (by rw [r] at g; cases g), fun j p => ?_⟩
 rw [g] at p
 obtain rfl := bX.1 p
 unfold wpOp
 simp only [s]
 rw [bD (hw.of ha)]
 refine .inl ?_
 unfold Oper.wp
 rw [ha.eval]
 rcases h with ⟨v, W', h1, d⟩ | ⟨W', h1, d⟩ | ⟨f, args, h1, d⟩
 ·rw [h1, gr]; exact ⟨d.1, by rw [l]; exact d.2 (k.set b) _ (ha.put m v)⟩
 ·rw [h1, gD]; exact ⟨d.1, by rw [l]; exact d.2 (k.set b) _ (ha.put m _)⟩
 ·rw [h1, gu]
  refine dV d ?_
  rintro e t ⟨v, rfl, q⟩
  exact ⟨q.1, by simp only [l]; exact q.2 (k.set b) _ (ha.put m v)⟩
theorem Rc {o : Oper} (i : Nat) (r : ops[i]? = some o) (g : Region.ready .any ops listed = [i]) (hw : sN n ops E o) (l : o.dst = none) (h : nn P E o W fun _ W' => S (listed.setIfInBounds i true) W' ∧ PX P n ops Q S fuel (listed.setIfInBounds i true) E W') : PX P n ops Q S (fuel + 1) listed E W := fun k a ha => by
 have b : i ∈ Region.ready .any ops listed := by rw [g]; simp
 refine ⟨fun q => (by rw [q] at g; cases g), fun j m => ?_⟩
 rw [g] at m
 obtain rfl := bX.1 m
 unfold wpOp
 simp only [r]
 rw [bD (hw.of ha)]
 refine .inl ?_
 unfold Oper.wp
 rw [ha.eval]
 rcases h with ⟨v, W', h1, d⟩ | ⟨W', h1, d⟩ | ⟨f, args, h1, d⟩
 ·rw [h1, gr, l]; exact ⟨d.1, d.2 (k.set b) _ (ha.yY _)⟩
 ·rw [h1, gD, l]; exact ⟨d.1, d.2 (k.set b) _ (ha.yY _)⟩
 ·rw [h1, gu]
  refine dV d ?_
  rintro e s ⟨v, rfl, p⟩
  simp only [l]
  exact ⟨p.1, p.2 (k.set b) _ (ha.yY _)⟩
theorem kW (d : Region.ready .any ops listed = []) (h : Q .normal E W) : PX P n ops Q S fuel listed E W := fun _ a ha => by
 cases fuel with
 | zero => exact ⟨d, E, ha, h⟩
 | succ f => exact ⟨fun _ => ⟨E, ha, h⟩, fun i b => by rw [d] at b; cases b⟩
theorem zz {p : Prop} {b : Bool} (a : b = true) (h : b = false) : p := by rw [a] at h; cases h
theorem ni {a : Array Bool} (b : listed = a) (h : PX P n ops Q S fuel a E W) : PX P n ops Q S fuel listed E W := by rw [b]; exact h
theorem BV {o r : Oper} {d s : Nat} (i j : Nat) (G : ops[i]? = some o) (I : ops[j]? = some r) (p : Region.ready .any ops listed = [i, j]) (hw : sN n ops E o) (x : sN n ops E r) (l : o.dst = some d) (u : r.dst = some s) (m : d < n) (w : s < n) (h : nn P E o W fun v W' => S (listed.setIfInBounds i true) W' ∧ PX P n ops Q S fuel (listed.setIfInBounds i true) (nQ E d v) W') (D : nn P E r W fun v W' => S (listed.setIfInBounds j true) W' ∧ PX P n ops Q S fuel (listed.setIfInBounds j true) (nQ E s v) W') : PX P n ops Q S (fuel + 1) listed E W := fun t a ha => by
 have key : ∀ (k : Nat) (q : Oper) (e : Nat), ops[k]? = some q → k ∈ Region.ready .any ops listed → sN n ops E q → q.dst = some e → e < n → (nn P E q W fun v W' => S (listed.setIfInBounds k true) W' ∧ PX P n ops Q S fuel (listed.setIfInBounds k true) (nQ E e v) W') →
   wpOp P ops (lift n Q) k (fun A y => S (listed.setIfInBounds k true) y ∧ JZ P ops (lift n Q) S fuel (listed.setIfInBounds k true) A y) a W := by
  intro k q e hk b hw l m h
  unfold wpOp
  simp only [hk]
  rw [bD (hw.of ha)]
  refine .inl ?_
  unfold Oper.wp
  rw [ha.eval]
  rcases h with ⟨v, W', h1, g⟩ | ⟨W', h1, g⟩ | ⟨f, args, h1, g⟩
  ·rw [h1, gr]; exact ⟨g.1, by rw [l]; exact g.2 (t.set b) _ (ha.put m v)⟩
  ·rw [h1, gD]; exact ⟨g.1, by rw [l]; exact g.2 (t.set b) _ (ha.put m _)⟩
  ·rw [h1, gu]
   refine dV g ?_
   rintro e y ⟨v, rfl, z⟩
   exact ⟨z.1, by simp only [l]; exact z.2 (t.set b) _ (ha.put m v)⟩
 refine ⟨fun F => (by rw [F] at p; cases p), fun k hk => ?_⟩
 rw [p] at hk
 rcases aR.1 hk with rfl | hk
 ·exact key _ o d G (by rw [p]; simp) hw l m h
 ·obtain rfl := bX.1 hk
  exact key _ r s I (by rw [p]; simp) x u w D
theorem lG {l : Array Bool} {i j : Nat} {A : Prop} (a : Nat.beq i j = false) (h : (l.setIfInBounds i true).getD j true = false → A) : l.getD j true = false → A := fun b => h (by
 rw [jg true (fun e => by subst e; simp at a)]; exact b)
end
theorem Ab.at {α : Type} {e : TypeId} {enc : α → List Value} {k : Nat} {v : Value} {l : List α} {R : List (Nat × Obj)} (h : jT e enc k v l R) (hk : ∀ x, (enc x).length = k) {p : Value} {i : Nat} (hp : Ab R k p i) {x : α} (d : l[i]? = some x) : At (zV R) p (enc x) := by
 obtain ⟨a, cur, cap, rfl, rfl, _, _, _, _, rfl, b⟩ := AO h hk hp d
 exact ⟨a, i * k, cur, e, (0, 0), rfl, by simp [zV], b⟩
theorem vZ.form {κ β : Type} {kenc : κ → Value} {vf : β → Value} {μ : kl} {v : Value} {l : List (κ × β)} (h : vZ kenc vf μ v l) : ∃ r, v = .map r := by
 rcases h with ⟨h, _⟩ | ⟨m, es, clock, h, _⟩
 ·exact ⟨_, h⟩
 ·exact ⟨_, h⟩
noncomputable def Gb {β : Type} (l : List (ByteArray × β)) : Option (List ByteArray) :=
 open Classical in if (l.map (·.1)).Nodup ∧ (∀ p ∈ l, p.1.size ≤ maxLen) ∧ l.length * 16 ≤ 140737488355328 then some (uP (l.map (·.1))) else none
def ME {κ κ2 β α : Type} (a : Nat) (mk : κ → κ2 → α) (l : List (κ × List (κ2 × β))) : Option (List α) :=
 if (l.flatMap (fun p => p.2.map (fun q => mk p.1 q.1))).length * a ≤ 140737488355328 ∧ (l.flatMap (fun p => p.2.map (fun q => mk p.1 q.1))).length ≤ maxLen then some (l.flatMap (fun p => p.2.map (fun q => mk p.1 q.1))) else none
end Go.Proofs.YtmlncblocfcmiaaGreat
namespace Go.Proofs.YtmlncblocfcmiaaGreat
open Go.RowKit
section
variable {P : Program} {n : Nat} {Q : qF} {E : Nat → Value} {W : World} {ops : Array Oper} {rest : List Oper}
variable {dd : Bool} {α : Type} {enc : α → List Value} {k : Nat} {μ : kl} {v : Value}
variable {d : Option Nat} {ty : TypeId} {pos : String} {af : Array Edge} {g : Option (Nat × Bool)} {F : Nat → Prop} {w : World} {L : List (Nat × Obj)}
theorem L5 {x y : Operand} {ats : Array TypeId} {k : IntKind} {a b : Int} (h : jG E x = .int k a) (i : jG E y = .int k b) :
  lQ P E ⟨d, .call ⟨.builtin .max, #[x, y], ats⟩, ty, pos, af, g⟩ W (.int k (if b > a then b else a)) W := by
 show (do let d ← resolve (jG E) ⟨.builtin .max, #[x, y], ats⟩ ty; invoke d.target d.args : Sem Next).run P W = _
 simp [resolve, invoke, h, i, builtin, Builtin.max_, Builtin.max2]
end
end Go.Proofs.YtmlncblocfcmiaaGreat
namespace Go.Proofs.YtmlncblocfcmiaaGreat
open Go.RowKit
variable {dd : Bool}
section
variable {P : Program} {fn : Func} {R : Ending → World → Prop} {E : Nat → Value} {W : World}
theorem oD {a : Tmp} {t0 : TypeId} {a0 : Addr} {v0 : Value} {b : Tmp} {v1 : Value} (g : fn.results = #[.cell a t0, .tmp b]) (d : E a = .pointer (some a0)) (j : (Instr.loadAt t0 (.pointer (some a0))).run P W = .ok v0 W) (h1 : E b = v1) (h : R (.returned (.tuple #[v0, v1])) W) : xM P fn R .ret E W :=
 ⟨.tuple #[v0, v1], fun tmps i => by
  have k : (loadVar t0 a0).run P W = .ok v0 W := by simpa [Instr.loadAt, Instr.sureAddr] using j
  simp [results, g, i, asAddr, d, k, h1], h⟩
theorem IK {a : Tmp} {v0 : Value} {b : Tmp} {v1 : Value} {d : Tmp} {v2 : Value} (j : fn.results = #[.tmp a, .tmp b, .tmp d]) (g : E a = v0) (h1 : E b = v1) (i : E d = v2) (h : R (.returned (.tuple #[v0, v1, v2])) W) : xM P fn R .ret E W :=
 ⟨.tuple #[v0, v1, v2], fun tmps k => by
  skip
  simp [results, j, k, asAddr, g, h1, i], h⟩
end
end Go.Proofs.YtmlncblocfcmiaaGreat
namespace Go.Proofs.YtmlncblocfcmiaaGreat
open Go.RowKit
section
variable {x y : Nat × Obj} {A B C L R S : List (Nat × Obj)}
theorem Pz : (x :: A).Perm (x :: A) := .refl _
theorem Pb (h : A.Perm (x :: B)) : (y :: A).Perm (x :: y :: B) := (h.cons y).trans (.swap ..)
theorem Pr (h : A.Perm (x :: B)) : (S ++ A).Perm (x :: (S ++ B)) := (h.append_left S).trans fH
theorem Qz : (R ++ A).Perm (R ++ A) := .refl _
theorem Qb (h : A.Perm (R ++ B)) : (y :: A).Perm (R ++ (y :: B)) := (h.cons y).trans List.perm_middle.symm
theorem Qr (h : A.Perm (R ++ B)) : (S ++ A).Perm (R ++ (S ++ B)) := (h.append_left S).trans (fY S R B)
def ma (L L' : List (Nat × Obj)) : Prop := ∃ M, L.Perm (L' ++ M)
theorem Sn : ma L [] := ⟨L, .refl _⟩
theorem St : ma L L := ⟨[], by rw [bH]⟩
theorem Sb (h : L.Perm (x :: A)) (k : ma A B) : ma L (x :: B) := let ⟨M, m⟩ := k; ⟨M, h.trans (m.cons x)⟩
theorem Sr (h : L.Perm (R ++ A)) (k : ma A B) : ma L (R ++ B) := let ⟨M, m⟩ := k; ⟨M, by rw [aP]; exact h.trans (m.append_left R)⟩
theorem Kb (k : ma A B) : ma (x :: A) (x :: B) := Sb Pz k
theorem Kr (k : ma A B) : ma (R ++ A) (R ++ B) := Sr Qz k
theorem Db (k : ma A B) : ma (x :: A) B := let ⟨M, m⟩ := k; ⟨x :: M, (m.cons x).trans List.perm_middle.symm⟩
theorem Dr (k : ma A B) : ma (R ++ A) B := let ⟨M, m⟩ := k; ⟨R ++ M, (m.append_left R).trans (fY R B M)⟩
theorem ma.mem (s : ma L A) : ∀ p, p ∈ A → p ∈ L := fun p hp => let ⟨M, m⟩ := s; m.mem_iff.2 (cJ _ hp)
theorem ST.ju {dd : Bool} {F : Nat → Prop} {w W : World} {μ : kl} (h : ST dd F w W μ L) (s : ma L A) : ST dd F w W μ A := let ⟨M, m⟩ := s; (h.perm m).sublist (List.sublist_append_left A M)
theorem ny.ju {μ : kl} {W : World} (h : ny μ L W) (s : ma L A) : ny μ A W := h.sub (kd.refl _) s.mem
theorem ny.tH {μ μ' : kl} {W : World} (h : ny μ L W) (a : kd μ' μ) (s : ma L A) : ny μ' A W := h.sub a s.mem
theorem Cn : L.Perm ([] ++ L) := .refl _
theorem Cb (h : L.Perm (x :: A)) (k : A.Perm (B ++ C)) : L.Perm ((x :: B) ++ C) := h.trans (k.cons x)
theorem Cr (h : L.Perm (R ++ A)) (k : A.Perm (B ++ C)) : L.Perm ((R ++ B) ++ C) := by rw [aP]; exact h.trans (k.append_left R)
theorem C0 (k : L.Perm (B ++ C)) : L.Perm (([] ++ B) ++ C) := k
theorem Tn : ([] ++ A).Perm A := .refl _
theorem Tb (h : (A ++ B).Perm C) : ((x :: A) ++ B).Perm (x :: C) := h.cons x
theorem Tr (h : (A ++ B).Perm C) : ((R ++ A) ++ B).Perm (R ++ C) := by rw [aP]; exact h.append_left R
theorem Nb (h : L.Perm (x :: A)) (k : A.Perm B) : L.Perm (x :: B) := h.trans (k.cons x)
theorem Nr (h : L.Perm (R ++ A)) (k : A.Perm B) : L.Perm (R ++ B) := h.trans (k.append_left R)
theorem Nz : L.Perm L := .refl _
theorem R0 {R' R1 : List (Nat × Obj)} (hp : R.Perm (R' ++ R1)) : (R ++ A).Perm (R' ++ (R1 ++ A)) := by rw [← aP]; exact hp.append_right A
theorem Mh : x ∈ x :: A := .head _
theorem Mt (h : x ∈ A) : x ∈ y :: A := .tail _ h
theorem Ma (h : x ∈ A) : x ∈ R ++ A := ez _ h
theorem Ml (h : x ∈ R) : x ∈ R ++ A := cJ _ h
end
section
variable {dd : Bool} {F : Nat → Prop} {w W : World} {μ : kl} {L L0 L1 Y R : List (Nat × Obj)}
theorem ST.GF (h : ST dd ku w W μ L) (s : ma L L1) : tT dd [] L1 w W := let ⟨_, m⟩ := s; (h.perm m).Q7
theorem ST.lM (h : ST dd (keys L0) w W μ L) (s : ma L L1) : tT dd L0 L1 w W := let ⟨_, m⟩ := s; (h.perm m).QJ
theorem ST.I8 : ∀ {R : List (Nat × Obj)} {μ : kl}, ST dd F w W μ (R ++ Y) → ∃ μ', ST dd F w W μ' Y ∧ kd μ μ' ∧ Lo F w μ μ' ∧ ∀ b o, (b, o) ∈ R → μ' b = some o
 | [], μ, h => ⟨μ, h, kd.refl _, Lo.refl, fun _ _ h => by cases h⟩
 | (g, o) :: R, μ, h => by
  have d : ST dd F w W μ ([] ++ (g, o) :: (R ++ Y)) := h
  obtain ⟨μ', i, a2, a3, a4⟩ := ST.I8 (R := R) (ST.G8 (A := []) d)
  refine ⟨μ', i, (ST.Hd (A := []) d).trans a2, (ST.ML (A := []) d).trans a3, fun b j a => ?_⟩
  rcases aR.1 a with a | a
  ·cases a; exact a2 _ _ (bD rfl)
  ·exact a4 b j a
theorem ST.NR {α : Type} {e' : TypeId} {enc : α → List Value} {k : Nat} {v : Value} {l : List α} (a : ST dd F w W μ (R ++ Y)) (h : jT e' enc k v l R) (hk : ∀ x, (enc x).length = k) : ∃ μ', ST dd F w W μ' Y ∧ kd μ μ' ∧ Lo F w μ μ' ∧ Sl (Pl enc) k μ' v l := by
 obtain ⟨μ', b, a2, a3, a4⟩ := ST.I8 a
 exact ⟨μ', b, a2, a3, h.sl hk a4⟩
section
variable {P : Program} {n : Nat} {Q : qF} {E : Nat → Value} {V : World} {id : Nat} {l : List Oper} {A B C : List (Nat × Obj)}
theorem kJ (a : ny μ A V.drew) (hm : P.follows .mixedOrders = true) (h : PX P n l.toArray Q (fun _ W => ny μ A W) l.length (Array.replicate l.length false) E V.drew) : CW P n (.region id l.toArray true) Q E V := Jy _ hm h
theorem uQ (i : Nat) (a : ny μ A V.drew) (h1 : ny μ B V.drew) (hm : P.follows .mixedOrders = true) (h : PX P n l.toArray Q (fun l W => ny μ A W ∧ (l.getD i true = false → ny μ B W)) l.length (Array.replicate l.length false) E V.drew) : CW P n (.region id l.toArray true) Q E V := Jy _ hm h
end
structure nB (μ : kl) (L0 : List (Nat × Obj)) (w : World) : Prop where
 H : Ei L0 w
 N : (L0.map (·.1)).Nodup
 S : kd μ (uc w L0)
theorem ST.LI (h : nB μ L0 w) : ST dd (keys L0) w w μ L0 := (ST.P4 h.H h.N).li h.S
end
section
variable {dd : Bool} {P : Program} {E : Nat → Value} {W : World} {d : Option Nat} {ty : TypeId} {pos : String} {af : Array Edge} {g : Option (Nat × Bool)} {F : Nat → Prop} {w : World} {μ : kl} {L : List (Nat × Obj)}
theorem jL {K : Value → World → Prop} {B : List (Nat × Obj)} {t : TypeId} {x y : Operand} (v : Value) {b off : Nat} {cs : Array Value} {T : TypeId} (a : Array Value) (i : ST dd F w W μ ((b, .cells cs T (0, 0)) :: B)) (m : jG E x = .pointer (some ⟨b, off, none⟩)) (n : jG E y = v) (j : ∀ w, (sizeOf t).run P w = .ok v.cells.size w) (h1 : ∀ u ∈ v.cells.toList, u.oneCell' = true) (l : off + v.cells.size ≤ cs.size) (k : (cs.toList.take off ++ v.cells.toList ++ cs.toList.drop (off + v.cells.size)).toArray = a) (h : ∀ W', ST dd F w W' μ ((b, .cells a T (0, 0)) :: B) → K undef W') : nn P E ⟨d, .store t x y, ty, pos, af, g⟩ W K := Pd [] v a i m n j h1 l k h
end
section
variable {dd : Bool}
variable {P : Program} {n : Nat} {Q : qF} {E : Nat → Value} {W : World} {ops : Array Oper} {rest : List Oper}
 {d : Option Nat} {ty : TypeId} {pos : String} {af : Array Edge} {g : Option (Nat × Bool)}
 {F : Nat → Prop} {w : World} {μ : kl} {L : List (Nat × Obj)}
theorem ns {K : Value → World → Prop} {α : Type} {e t : TypeId} {enc : α → List Value} {k a : Nat} {z v vs : Value} {l m r : List α} {R Y : List (Nat × Obj)} {x y : Operand} {i : TypeInfo} (b : ST dd F w W μ (R ++ Y)) (hk : ∀ x, (enc x).length = k) (n : 0 < k) (h1 : ∀ x, ∀ u ∈ enc x, u.oneCell' = true) (J : P.underlying t = some (.slice e)) (G : P.info? e = some i) (O : i.zero = some z) (q : z.cells.size = k) (p : i.size = k) (j : i.bytes = a) (L : jG E x = v) (M : jG E y = vs) (A : jT e enc k v l R) (I : Sl (Pl enc) k (hp W) vs m) (D : mu a l m = some r) (h : ∀ W' s R', ST dd F w W' μ (R' ++ Y) → jT e enc k s r R' → K s W') : nn P E ⟨d, .call ⟨.builtin .append, #[x, y], #[t, t]⟩, ty, pos, af, g⟩ W K :=
 Jf [] b hk n h1 J G O q p j L M A I D h
end
section
variable {dd : Bool}
variable {P : Program} {E : Nat → Value} {W : World} {d : Option Nat} {ty : TypeId} {pos : String} {af : Array Edge} {g : Option (Nat × Bool)}
 {F : Nat → Prop} {w : World} {μ : kl} {L : List (Nat × Obj)}
theorem Lp {K : Value → World → Prop} {α : Type} {e : TypeId} {enc : α → List Value} {k : Nat} {l : List α} {f : FuncId} {fv : Operand} {ax : Array Operand} {ats : Array TypeId} {caps : Array Value} {args : List Value} (Y : List (Nat × Obj)) (a : ST dd F w W μ Y) (i : jG E fv = .func (.func f) #[] caps) (he : ∀ args w, (callFunc f args).run P w = .ok (.enter f args) w) (ha : ax.map (jG E) ++ caps = args.toArray) (b : lz dd P f args W e enc k l) (h : ∀ W' v μ' R, ST dd F w W' μ' (R ++ Y) → kd μ μ' → Lo F w μ μ' → jT e enc k v l R → K v W') : nn P E ⟨d, .call ⟨.value fv, ax, ats⟩, ty, pos, af, g⟩ W K :=
 KL [] Y a i he ha b h
end
section
variable {dd : Bool}
variable {P : Program} {E : Nat → Value} {W : World} {d : Option Nat} {ty : TypeId} {pos : String} {af : Array Edge} {g : Option (Nat × Bool)}
 {F : Nat → Prop} {w : World} {μ : kl} {L : List (Nat × Obj)} {α : Type} {e' : TypeId} {enc : α → List Value} {k : Nat} {v : Value} {l : List α} {R : List (Nat × Obj)}
theorem Co {K : Value → World → Prop} {Y : List (Nat × Obj)} {t : TypeId} {x y : Operand} {p u : Value} {i : Nat} {x0 x1 : α} (a : ST dd F w W μ (R ++ Y)) (h : jT e' enc k v l R) (hk : ∀ x, (enc x).length = k) (h1 : ∀ x, ∀ u ∈ enc x, u.oneCell' = true) (n : jG E x = p) (q : jG E y = u) (hu : u.cells = (enc x1).toArray) (hp : Ab R k p i) (m : l[i]? = some x0) (j : ∀ w, (sizeOf t).run P w = .ok k w) (b : ∀ W' R', ST dd F w W' μ (R' ++ Y) → jT e' enc k v (l.set i x1) R' → K undef W') : nn P E ⟨d, .store t x y, ty, pos, af, g⟩ W K :=
 KY [] a h hk h1 n q hu hp m j b
end
section
variable {dd : Bool}
variable {P : Program} {E : Nat → Value} {W : World} {d : Option Nat} {ty : TypeId} {pos : String} {af : Array Edge} {g : Option (Nat × Bool)}
 {F : Nat → Prop} {w : World} {μ : kl} {L : List (Nat × Obj)} {α : Type} {e' : TypeId} {enc : α → List Value} {k : Nat} {v : Value} {l : List α} {R : List (Nat × Obj)}
theorem BH {K : Value → World → Prop} (z : α) {Y : List (Nat × Obj)} {t e : TypeId} {x : Operand} {u b : Value} {i : Nat} (a : ST dd F w W μ (R ++ Y)) (h : jT e' enc k v l R) (hk : ∀ x, (enc x).length = k) (h1 : ∀ x, ∀ u ∈ enc x, u.oneCell' = true) (n : P.underlying t = some (.slice e)) (q : ∀ w, (zeroValue e).run P w = .ok b w) (hu : Ak k v i u) (m : b.cells = (enc z).toArray) (p : jG E x = u) (j : ∀ W' R', ST dd F w W' μ (R' ++ Y) → jT e' enc k v (oz l i z) R' → K (.tuple #[]) W') : nn P E ⟨d, .call ⟨.builtin .clear, #[x], #[t]⟩, ty, pos, af, g⟩ W K :=
 JE z [] a h hk h1 n q hu m p j
end
section
variable {dd : Bool}
variable {κ γ : Type} {Q : Value → γ → List (Nat × Obj) → Prop} {beq : κ → κ → Bool} {kenc : κ → Value}
variable {P : Program} {W : World} {kt : TypeId} {E : Nat → Value} {d : Option Nat} {ty : TypeId} {pos : String} {af : Array Edge} {g : Option (Nat × Bool)} {F : Nat → Prop} {w : World} {μ : kl} {L : List (Nat × Obj)}
variable {κ2 β : Type} {kenc2 : κ2 → Value} {vf : β → Value} {beq2 : κ2 → κ2 → Bool} {kt2 : TypeId}
theorem L7 {i : Value → World → Prop} {Y R : List (Nat × Obj)} {t e : TypeId} {m x y : Operand} {p : Value} {b : List (κ × Value)} {l n : List (κ × List (κ2 × β))} {k : κ} {j : κ2} {v : β} (hk : ∀ {x y : κ}, beq x y = true → x = y) (K : pk P kt2 kenc2 beq2) (s : P.underlying t = some (.map kt2 e)) (a : ST dd F w W μ (R ++ Y)) (h : mK kenc (lL kenc2 vf) p b l R) (hm : jG E m = qY beq b k (.map none)) (u : jG E x = kenc2 j) (z : jG E y = vf v) (r : FF beq beq2 l k j v = some n) (q : ∀ W' R', ST dd F w W' μ (R' ++ Y) → mK kenc (lL kenc2 vf) p b n R' → i undef W') : nn P E ⟨d, .mapUpdate t m x y, ty, pos, af, g⟩ W i :=
 Mm [] hk K s a h hm u z r q
end
section
variable {dd : Bool}
variable {κ γ : Type} {Q : Value → γ → List (Nat × Obj) → Prop} {beq : κ → κ → Bool} {kenc : κ → Value}
variable {P : Program} {W : World} {kt : TypeId} {E : Nat → Value} {d : Option Nat} {ty : TypeId} {pos : String} {af : Array Edge} {g : Option (Nat × Bool)} {F : Nat → Prop} {w : World} {μ : kl} {L : List (Nat × Obj)}
variable {κ2 β : Type} {kenc2 : κ2 → Value} {vf : β → Value} {beq2 : κ2 → κ2 → Bool} {kt2 : TypeId}
theorem MC {i : Value → World → Prop} {Y R R2 : List (Nat × Obj)} {t e : TypeId} {m x y : Operand} {b : Value} {n : List (κ × Value)} {l j : List (κ × γ)} {k : κ} {u : Value} {z : γ} (K : pk P kt kenc beq) (s : P.underlying t = some (.map kt e)) (a : ST dd F w W μ (R ++ (R2 ++ Y))) (h : mK kenc Q b n l R) (hm : jG E m = b) (v : jG E x = kenc k) (A : jG E y = u) (r : Q u z R2) (q : Fo beq l k z = some j) (p : ∀ W' R', ST dd F w W' μ (R' ++ Y) → mK kenc Q b (nU beq n k u) j R' → i undef W') : nn P E ⟨d, .mapUpdate t m x y, ty, pos, af, g⟩ W i :=
 Mz [] K s a h hm v A r q p
end
section
variable {dd : Bool}
variable {κ γ : Type} {Q : Value → γ → List (Nat × Obj) → Prop} {beq : κ → κ → Bool} {kenc : κ → Value}
variable {P : Program} {W : World} {kt : TypeId} {E : Nat → Value} {d : Option Nat} {ty : TypeId} {pos : String} {af : Array Edge} {g : Option (Nat × Bool)} {F : Nat → Prop} {w : World} {μ : kl} {L : List (Nat × Obj)}
theorem QC {i : Value → World → Prop} {Y R R1 : List (Nat × Obj)} {t e : TypeId} {m x y : Operand} {b : Value} {j : List (κ × Value)} {l : List (κ × γ)} {k : κ} {u : Value} {z : γ} (K : pk P kt kenc beq) (q : P.underlying t = some (.map kt e)) (a : ST dd F w W μ (R ++ (R1 ++ Y))) (h : KJ beq kenc Q b j l k R) (hm : jG E m = b) (r : jG E x = kenc k) (s : jG E y = u) (p : Q u z R1) (n : ∀ W' R', ST dd F w W' μ (R' ++ Y) → mK kenc Q b (nU beq j k u) (nU beq l k z) R' → i undef W') : nn P E ⟨d, .mapUpdate t m x y, ty, pos, af, g⟩ W i :=
 PE [] K q a h hm r s p n
end
section
variable {dd : Bool}
variable {κ γ : Type} {Q : Value → γ → List (Nat × Obj) → Prop} {beq : κ → κ → Bool} {kenc : κ → Value}
variable {P : Program} {W : World} {kt : TypeId} {E : Nat → Value} {d : Option Nat} {ty : TypeId} {pos : String} {af : Array Edge} {g : Option (Nat × Bool)} {F : Nat → Prop} {w : World} {μ : kl} {L : List (Nat × Obj)}
theorem KZ {j : Value → World → Prop} {Y R : List (Nat × Obj)} {t e : TypeId} {m x : Operand} {i z : Value} {x0 : γ} {u : List (κ × Value)} {l : List (κ × γ)} {k : κ} (hk : ∀ {x y : κ}, beq x y = true ↔ x = y) (K : pk P kt kenc beq) (q : P.underlying t = some (.map kt e)) (s : ∀ w, (zeroValue e).run P w = .ok z w) (b : Q z x0 []) (a : ST dd F w W μ (R ++ Y)) (h : mK kenc Q i u l R) (hm : jG E m = i) (r : jG E x = kenc k) (p : ∀ W' v n R' R1, ST dd F w W' μ (R' ++ (R1 ++ Y)) → Q v ((kV beq l k).getD x0) R1 → Ig beq kenc Q i l k n R' → j (.tuple #[v, .int .i64 (n : Nat)]) W') : nn P E ⟨d, .mapEntry t m x, ty, pos, af, g⟩ W j :=
 KM [] hk K q s b a h hm r p
end
section
variable {dd : Bool}
variable {κ γ : Type} {Q : Value → γ → List (Nat × Obj) → Prop} {beq : κ → κ → Bool} {kenc : κ → Value}
variable {P : Program} {W : World} {kt : TypeId} {E : Nat → Value} {d : Option Nat} {ty : TypeId} {pos : String} {af : Array Edge} {g : Option (Nat × Bool)} {F : Nat → Prop} {w : World} {μ : kl} {L : List (Nat × Obj)}
theorem I2 {j : Value → World → Prop} {Y R R1 : List (Nat × Obj)} {t e : TypeId} {m s y : Operand} {i u : Value} {z : γ} {l : List (κ × γ)} {k : κ} {n : Nat} (hk : ∀ {x y : κ}, beq x y = true ↔ x = y) (K : pk P kt kenc beq) (a : ST dd F w W μ (R ++ (R1 ++ Y))) (h : Ig beq kenc Q i l k n R) (hm : jG E m = i) (r : jG E s = .int .i64 (n : Nat)) (v : jG E y = u) (q : Q u z R1) (p : ∀ W' b R', ST dd F w W' μ (R' ++ Y) → mK kenc Q i b (nU beq l k z) R' → j undef W') : nn P E ⟨d, .entryStore t m s y, ty, pos, af, g⟩ W j :=
 Jm (e := e) [] hk K a h hm r v q p
end
section
variable {dd : Bool}
variable {α : Type} {e : TypeId} {enc : α → List Value} {k : Nat} {v : Value} {l : List α} {R : List (Nat × Obj)}
variable {P : Program} {W : World} {E : Nat → Value} {d : Option Nat} {ty : TypeId} {pos : String} {af : Array Edge} {g : Option (Nat × Bool)} {F : Nat → Prop} {w : World} {μ : kl} {L : List (Nat × Obj)}
theorem JD {K : Value → World → Prop} {t : TypeId} {a : Nat} {z vs : Value} {m r : List α} {Y : List (Nat × Obj)} {x y : Operand} {i : TypeInfo} (b : ST dd F w W μ (R ++ Y)) (hk : ∀ x, (enc x).length = k) (n : 0 < k) (h1 : ∀ x, ∀ u ∈ enc x, u.oneCell' = true) (J : P.underlying t = some (.slice e)) (G : P.info? e = some i) (O : i.zero = some z) (q : z.cells.size = k) (p : i.size = k) (j : i.bytes = a) (L : jG E x = v) (M : jG E y = vs) (A : qc e enc k v l R) (I : Sl (Pl enc) k (hp W) vs m) (D : mu a l m = some r) (h : ∀ W' s R', ST dd F w W' μ (R' ++ Y) → qc e enc k s r R' → K s W') : nn P E ⟨d, .call ⟨.builtin .append, #[x, y], #[t, t]⟩, ty, pos, af, g⟩ W K :=
 JJ [] b hk n h1 J G O q p j L M A I D h
end
end Go.Proofs.YtmlncblocfcmiaaGreat
namespace Go.Proofs.YtmlncblocfcmiaaGreat
open Go.RowKit
section
variable {P : Program} {n : Nat} {Q : qF} {E : Nat → Value} {W : World} {ops : Array Oper} {rest : List Oper}
variable {d j t : Nat} {want : Bool} {v : Value} {ins : Go.Op} {ty : TypeId} {pos : String} {af : Array Edge} {A : Value → Prop}
theorem V (b : lQ P E ⟨some d, ins, ty, pos, af, none⟩ W v W) (h : LW P n ops Q rest (nQ E d v) W) (a : d < n := by decide) : LW P n ops Q (⟨some d, ins, ty, pos, af, none⟩ :: rest) E W := Hk (.inl rfl) rfl a b h
theorem VE (h : nn P E ⟨some d, ins, ty, pos, af, none⟩ W fun v W' => LW P n ops Q rest (nQ E d v) W') (a : d < n := by decide) : LW P n ops Q (⟨some d, ins, ty, pos, af, none⟩ :: rest) E W := Qk (.inl rfl) rfl a h
theorem VO (h : nn P E ⟨none, ins, ty, pos, af, none⟩ W fun _ W' => LW P n ops Q rest E W') : LW P n ops Q (⟨none, ins, ty, pos, af, none⟩ :: rest) E W := Q1 (.inl rfl) rfl h
theorem VQ (b : ∃ p, A p ∧ ∀ W, lQ P E ⟨some d, ins, ty, pos, af, none⟩ W p W) (h : ∀ p, A p → LW P n ops Q rest (nQ E d p) W) (a : d < n := by decide) : LW P n ops Q (⟨some d, ins, ty, pos, af, none⟩ :: rest) E W := Pu (.inl rfl) rfl a b h
theorem Vg (b : (ops[j]?).bind (·.dst) = some t) (a : E t = .bool want) (i : lQ P E ⟨some d, ins, ty, pos, af, some (j, want)⟩ W v W) (h : LW P n ops Q rest (nQ E d v) W) (k : t < n := by decide) (g : d < n := by decide) : LW P n ops Q (⟨some d, ins, ty, pos, af, some (j, want)⟩ :: rest) E W := Hk (.inr ⟨j, want, t, rfl, b, k, a⟩) rfl g i h
theorem LC (b : (ops[j]?).bind (·.dst) = some t) (a : E t = .bool want) (h : nn P E ⟨some d, ins, ty, pos, af, some (j, want)⟩ W fun v W' => LW P n ops Q rest (nQ E d v) W') (i : t < n := by decide) (g : d < n := by decide) : LW P n ops Q (⟨some d, ins, ty, pos, af, some (j, want)⟩ :: rest) E W := Qk (.inr ⟨j, want, t, rfl, b, i, a⟩) rfl g h
theorem Sh (b : (ops[j]?).bind (·.dst) = some t) (a : E t = .bool want) (i : ∃ p, A p ∧ ∀ W, lQ P E ⟨some d, ins, ty, pos, af, some (j, want)⟩ W p W) (h : ∀ p, A p → LW P n ops Q rest (nQ E d p) W) (k : t < n := by decide) (g : d < n := by decide) : LW P n ops Q (⟨some d, ins, ty, pos, af, some (j, want)⟩ :: rest) E W := Pu (.inr ⟨j, want, t, rfl, b, k, a⟩) rfl g i h
theorem Vn (b : (ops[j]?).bind (·.dst) = some t) (a : E t = .bool (!want)) (h : LW P n ops Q rest (nQ E d undef) W) (i : t < n := by decide) (g : d < n := by decide) : LW P n ops Q (⟨some d, ins, ty, pos, af, some (j, want)⟩ :: rest) E W := QU rfl g rfl b i a h
theorem Vu (b : (ops[j]?).bind (·.dst) = some t) (a : E t = undef) (h : LW P n ops Q rest (nQ E d undef) W) (i : t < n := by decide) (g : d < n := by decide) : LW P n ops Q (⟨some d, ins, ty, pos, af, some (j, want)⟩ :: rest) E W := P6 rfl g rfl b i a h
end
section
variable {P : Program} {n : Nat} {Q : qF} {E : Nat → Value} {W : World} {ops : Array Oper} {S : Array Bool → World → Prop} {fuel : Nat} {listed : Array Bool} {μ : kl} {B : List (Nat × Obj)}
variable {d j t : Nat} {want : Bool} {v : Value} {ins : Go.Op} {ty : TypeId} {pos : String} {af : Array Edge} {A : Value → Prop}
theorem X (i : Nat) (b : ops[i]? = some ⟨some d, ins, ty, pos, af, none⟩) (a : S (listed.setIfInBounds i true) W) (j : ∀ {W}, lQ P E ⟨some d, ins, ty, pos, af, none⟩ W v W) (h : PX P n ops Q S fuel (listed.setIfInBounds i true) (nQ E d v) W) (hk : Bm ops listed i = true := by kernel_rfl) (hm : ∀ l w, S (l.setIfInBounds i true) w → S l w := by exact fun _ _ h => h) (g : d < n := by decide) : PX P n ops Q S (fuel + 1) listed E W := kO i b hk (.inl rfl) rfl g hm a (fun _ _ _ _ => j) h
theorem XH (i : Nat) (b : ops[i]? = some ⟨some d, ins, ty, pos, af, none⟩) (a : ny μ B W) (j : ∀ W, ny μ B W → lQ P E ⟨some d, ins, ty, pos, af, none⟩ W v W) (h : PX P n ops Q (fun _ W => ny μ B W) fuel (listed.setIfInBounds i true) (nQ E d v) W) (hk : Bm ops listed i = true := by kernel_rfl) (g : d < n := by decide) : PX P n ops Q (fun _ W => ny μ B W) (fuel + 1) listed E W := kO i b hk (.inl rfl) rfl g (fun _ _ h => h) a (fun _ W _ h => j W h) h
theorem XQ (i : Nat) (b : ops[i]? = some ⟨some d, ins, ty, pos, af, none⟩) (a : S (listed.setIfInBounds i true) W) (j : ∃ p, A p ∧ ∀ W, lQ P E ⟨some d, ins, ty, pos, af, none⟩ W p W) (h : ∀ p, A p → PX P n ops Q S fuel (listed.setIfInBounds i true) (nQ E d p) W) (hk : Bm ops listed i = true := by kernel_rfl) (hm : ∀ l w, S (l.setIfInBounds i true) w → S l w := by exact fun _ _ h => h) (g : d < n := by decide) : PX P n ops Q S (fuel + 1) listed E W := sn i b hk (.inl rfl) rfl g hm a j h
theorem XE (i : Nat) (a : ops[i]? = some ⟨some d, ins, ty, pos, af, none⟩) (h : nn P E ⟨some d, ins, ty, pos, af, none⟩ W fun v W' => S (listed.setIfInBounds i true) W' ∧ PX P n ops Q S fuel (listed.setIfInBounds i true) (nQ E d v) W') (g : Region.ready .any ops listed = [i] := by kernel_rfl) (b : d < n := by decide) : PX P n ops Q S (fuel + 1) listed E W := PK i a g (.inl rfl) rfl b h
theorem XO (i : Nat) (a : ops[i]? = some ⟨none, ins, ty, pos, af, none⟩) (h : nn P E ⟨none, ins, ty, pos, af, none⟩ W fun _ W' => S (listed.setIfInBounds i true) W' ∧ PX P n ops Q S fuel (listed.setIfInBounds i true) E W') (b : Region.ready .any ops listed = [i] := by kernel_rfl) : PX P n ops Q S (fuel + 1) listed E W := Rc i a b (.inl rfl) rfl h
theorem Xg (i : Nat) (g : ops[i]? = some ⟨some d, ins, ty, pos, af, some (j, want)⟩) (k : (ops[j]?).bind (·.dst) = some t) (a : E t = .bool want) (b : S (listed.setIfInBounds i true) W) (q : ∀ {W}, lQ P E ⟨some d, ins, ty, pos, af, some (j, want)⟩ W v W) (h : PX P n ops Q S fuel (listed.setIfInBounds i true) (nQ E d v) W) (hk : Bm ops listed i = true := by kernel_rfl) (hm : ∀ l w, S (l.setIfInBounds i true) w → S l w := by exact fun _ _ h => h) (p : t < n := by decide) (m : d < n := by decide) : PX P n ops Q S (fuel + 1) listed E W := kO i g hk (.inr ⟨j, want, t, rfl, k, p, a⟩) rfl m hm b (fun _ _ _ _ => q) h
theorem uF (i : Nat) (g : ops[i]? = some ⟨some d, ins, ty, pos, af, some (j, want)⟩) (k : (ops[j]?).bind (·.dst) = some t) (a : E t = .bool want) (b : ny μ B W) (p : ∀ W, ny μ B W → lQ P E ⟨some d, ins, ty, pos, af, some (j, want)⟩ W v W) (h : PX P n ops Q (fun _ W => ny μ B W) fuel (listed.setIfInBounds i true) (nQ E d v) W) (hk : Bm ops listed i = true := by kernel_rfl) (m : t < n := by decide) (l : d < n := by decide) : PX P n ops Q (fun _ W => ny μ B W) (fuel + 1) listed E W := kO i g hk (.inr ⟨j, want, t, rfl, k, m, a⟩) rfl l (fun _ _ h => h) b (fun _ W _ h => p W h) h
theorem E7 (i : Nat) (b : ops[i]? = some ⟨some d, ins, ty, pos, af, some (j, want)⟩) (g : (ops[j]?).bind (·.dst) = some t) (a : E t = .bool want) (h : nn P E ⟨some d, ins, ty, pos, af, some (j, want)⟩ W fun v W' => S (listed.setIfInBounds i true) W' ∧ PX P n ops Q S fuel (listed.setIfInBounds i true) (nQ E d v) W') (l : Region.ready .any ops listed = [i] := by kernel_rfl) (m : t < n := by decide) (k : d < n := by decide) : PX P n ops Q S (fuel + 1) listed E W := PK i b l (.inr ⟨j, want, t, rfl, g, m, a⟩) rfl k h
theorem Xn (i : Nat) (g : ops[i]? = some ⟨some d, ins, ty, pos, af, some (j, want)⟩) (k : (ops[j]?).bind (·.dst) = some t) (a : E t = .bool (!want)) (b : S (listed.setIfInBounds i true) W) (h : PX P n ops Q S fuel (listed.setIfInBounds i true) (nQ E d undef) W) (hk : Bm ops listed i = true := by kernel_rfl) (hm : ∀ l w, S (l.setIfInBounds i true) w → S l w := by exact fun _ _ h => h) (p : t < n := by decide) (m : d < n := by decide) : PX P n ops Q S (fuel + 1) listed E W := Q6 i g hk rfl k p a rfl m hm b h
theorem Xu (i : Nat) (g : ops[i]? = some ⟨some d, ins, ty, pos, af, some (j, want)⟩) (k : (ops[j]?).bind (·.dst) = some t) (a : E t = undef) (b : S (listed.setIfInBounds i true) W) (h : PX P n ops Q S fuel (listed.setIfInBounds i true) (nQ E d undef) W) (hk : Bm ops listed i = true := by kernel_rfl) (hm : ∀ l w, S (l.setIfInBounds i true) w → S l w := by exact fun _ _ h => h) (p : t < n := by decide) (m : d < n := by decide) : PX P n ops Q S (fuel + 1) listed E W := Pv i g hk rfl k p a rfl m hm b h
end
end Go.Proofs.YtmlncblocfcmiaaGreat
namespace Go.Proofs.YtmlncblocfcmiaaGreat
open Go.RowKit
section
variable {α β γ : Type}
inductive pf (Q : α → β → Prop) : List α → List β → Prop
 | nil : pf Q [] []
 | cons {a : α} {b : β} {l : List α} {m : List β} : Q a b → pf Q l m → pf Q (a :: l) (b :: m)
namespace pf
variable {Q Q' : α → β → Prop}
theorem length {l : List α} {m : List β} (h : pf Q l m) : l.length = m.length := by
 induction h with
 | nil => rfl
 | cons _ _ ih => simp [ih]
theorem imp {l : List α} {m : List β} (h : pf Q l m) (d : ∀ a b, Q a b → Q' a b) : pf Q' l m := by
 induction h with
 | nil => exact .nil
 | cons h1 _ ih => exact .cons (d _ _ h1) ih
theorem get {l : List α} {m : List β} (h : pf Q l m) : ∀ {i : Nat} {b : β}, m[i]? = some b → ∃ a, l[i]? = some a ∧ Q a b := by
 induction h with
 | nil => intro i b d; simp at d
 | cons h1 _ ih =>
  intro i b d
  cases i with
  | zero => simp at d; subst d; exact ⟨_, rfl, h1⟩
  | succ i => simpa using ih (by simpa using d)
theorem append {l a : List α} {m b : List β} (h : pf Q l m) (d : pf Q a b) : pf Q (l ++ a) (m ++ b) := by
 induction h with
 | nil => exact d
 | cons h1 _ ih => exact .cons h1 ih
theorem set {l : List α} {m : List β} (h : pf Q l m) {a : α} {b : β} (g : Q a b) : ∀ i : Nat, pf Q (l.set i a) (m.set i b) := by
 induction h with
 | nil => intro i; exact .nil
 | cons h1 d ih =>
  intro i
  cases i with
  | zero => exact .cons g d
  | succ i => exact .cons h1 (ih i)
theorem take {l : List α} {m : List β} (h : pf Q l m) : ∀ i : Nat, pf Q (l.take i) (m.take i) := by
 induction h with
 | nil => intro i; simp; exact .nil
 | cons h1 _ ih =>
  intro i
  cases i with
  | zero => exact .nil
  | succ i => exact .cons h1 (ih i)
theorem drop {l : List α} {m : List β} (h : pf Q l m) : ∀ i : Nat, pf Q (l.drop i) (m.drop i) := by
 induction h with
 | nil => intro i; simp; exact .nil
 | cons h1 a ih =>
  intro i
  cases i with
  | zero => exact .cons h1 a
  | succ i => exact ih i
end pf
theorem BJ {P : Nat → β → α → Prop} : ∀ {m : List β} (o : Nat), (∀ (i : Nat) (b : β), m[i]? = some b → ∃ a, P (o + i) b a) → ∃ l : List α, l.length = m.length ∧ ∀ (i : Nat) (b : β), m[i]? = some b → ∃ a, l[i]? = some a ∧ P (o + i) b a
 | [], _, _ => ⟨[], rfl, fun i b h => by simp at h⟩
 | b :: m, o, h => by
  obtain ⟨a, ha⟩ := h 0 b rfl
  obtain ⟨l, h1, g⟩ := BJ (m := m) (o + 1) (fun i b j => by
   obtain ⟨a, ha⟩ := h (i + 1) b (by simpa using j)
   exact ⟨a, by rw [show o + 1 + i = o + (i + 1) by omega]; exact ha⟩)
  refine ⟨a :: l, by simp [h1], fun i c d => ?_⟩
  cases i with
  | zero => simp at d; subst d; exact ⟨a, rfl, ha⟩
  | succ i =>
   obtain ⟨x, k, hp⟩ := g i c (by simpa using d)
   exact ⟨x, by simpa using k, by rw [show o + (i + 1) = o + 1 + i by omega]; exact hp⟩
theorem pf.LS {Q : α → β → Prop} : ∀ {l : List α} {m : List β}, l.length = m.length → (∀ (i : Nat) (a : α) (b : β), l[i]? = some a → m[i]? = some b → Q a b) → pf Q l m
 | [], [], _, _ => .nil
 | [], _ :: _, h, _ => by cases h
 | _ :: _, [], h, _ => by cases h
 | a :: l, b :: m, h, d => .cons (d 0 a b rfl rfl) (pf.LS (by simpa using h) (fun i x y g j => d (i + 1) x y (by simpa using g) (by simpa using j)))
end
structure Deep {β : Type} (R : pE β) (k : Nat) : Prop where
 mono : Il R
 len : ∀ {μ ys x}, R μ ys x → ys.length = k
 one : ∀ {μ ys x}, R μ ys x → ∀ u ∈ ys, u.oneCell' = true
abbrev xa (k : Nat) := {ys : List Value // ys.length = k ∧ ∀ u ∈ ys, u.oneCell' = true}
def uY {k : Nat} (c : xa k) : List Value := c.1
theorem yH {k : Nat} (x : xa k) : (uY x).length = k := x.2.1
theorem Nu {k : Nat} (x : xa k) : ∀ u ∈ uY x, u.oneCell' = true := x.2.2
theorem Sl.Ac {α : Type} {R : pE α} {k : Nat} {μ : kl} {v : Value} {l : List α} (h : Sl R k μ v l) : v.oneCell' = true := by
 obtain ⟨A, c, rfl, _⟩ := h; rfl
section
variable {β : Type} {Rl : pE β} {k : Nat} {μ μ' : kl} {v : Value} {l : List β}
def Deep.cell (a : Deep Rl k) {ys : List Value} {x : β} (h : Rl μ ys x) : xa k := ⟨ys, a.len h, a.one h⟩
theorem Sl.raw (z : Deep Rl k) (h : Sl Rl k μ v l) : ∃ cl : List (xa k), Sl (Pl uY) k μ v cl ∧ pf (fun c x => Rl μ c.1 x) cl l := by
 obtain ⟨A, c, rfl, h1, s, u⟩ := h
 cases l with
 | nil => exact ⟨[], ⟨A, c, rfl, h1, s, fun h => absurd h (by simp)⟩, .nil⟩
 | cons x0 l =>
  obtain ⟨b, off, cs, T, fr, rfl, D, w⟩ := u (by simp)
  obtain ⟨cl, p, r⟩ := BJ (P := fun i x (c : xa k) => Rl μ c.1 x ∧ ∀ j y, c.1[j]? = some y → cs[off + i * k + j]? = some y) (m := x0 :: l) 0 (fun i x q => by
   obtain ⟨ys, _, d, g⟩ := w i x q
   exact ⟨z.cell d, d, by rw [fe]; exact g⟩)
  refine ⟨cl, ⟨_, c, by rw [p], by omega, s, fun _ => ⟨b, off, cs, T, fr, rfl, D, fun i c n => ?_⟩⟩, pf.LS p (fun i c x n q => ?_)⟩
  ·have E : i < (x0 :: l).length := by rw [← p]; exact (bK.1 n).1
   obtain ⟨t, a, _, g⟩ := r i _ (cN E)
   rw [n] at a; cases a
   exact ⟨c.1, c.2.1, rfl, by rw [fe] at g; exact g⟩
  ·obtain ⟨t, a, d, _⟩ := r i x q
   rw [n] at a; cases a
   exact d
theorem Sl.Mv {cl : List (xa k)} (h : Sl (Pl uY) k μ v cl) (t : kd μ μ') (ha : pf (fun c x => Rl μ' c.1 x) cl l) : Sl Rl k μ' v l := by
 obtain ⟨A, c, rfl, h1, m, n⟩ := h
 have a := ha.length
 refine ⟨A, c, by rw [a], by omega, m, fun w => ?_⟩
 obtain ⟨b, off, cs, T, fr, rfl, q, p⟩ := n (by omega)
 refine ⟨b, off, cs, T, fr, rfl, t _ _ q, fun i x u => ?_⟩
 obtain ⟨c, r, s⟩ := ha.get u
 obtain ⟨ys, d, g, j⟩ := p i c r
 cases g
 exact ⟨uY c, d, s, j⟩
def xd (Rl : pE β) (k : Nat) (μ : kl) (W : World) (v : Value) (l : List β) : Prop := ∃ cl : List (xa k), Sl (Pl uY) k (hp W) v cl ∧ pf (fun c x => Rl μ c.1 x) cl l
theorem xd.sl (b : Deep Rl k) {W : World} (h : Sl Rl k μ v l) (d : kd μ (hp W)) : xd Rl k μ W v l := by
 obtain ⟨cl, h1, a⟩ := h.raw b
 exact ⟨cl, h1.mono (Pl.mono _) d, a⟩
theorem Sl.M7 {b m : Nat} {cl : List (xa k)} {cs : Array Value} {e : TypeId} (hm : cl.length = m) (a : m ≤ maxLen) (g : cs.toList = (cl.map uY).flatten) (d : μ b = some (.cells cs e (0, 0))) : Sl (Pl uY) k μ (.slice (some ⟨b, 0, none⟩) m m) cl := by
 subst hm
 refine ⟨_, _, rfl, aY _, a, fun _ => ⟨b, 0, _, _, _, rfl, d, fun i x h => ⟨uY x, yH x, rfl, fun j y l => ?_⟩⟩⟩
 have := wE yH cl i x h j y l
 rw [← g] at this
 simpa using this
inductive CK (Rl : pE β) (k : Nat) (μ : kl) : List Value → List β → Prop
 | nil : CK Rl k μ [] []
 | cons {ys zs : List Value} {x : β} {l : List β} : Rl μ ys x → CK Rl k μ zs l → CK Rl k μ (ys ++ zs) (x :: l)
theorem CK.cells (b : Deep Rl k) {ys : List Value} (h : CK Rl k μ ys l) : ∃ cl : List (xa k), (cl.map uY).flatten = ys ∧ pf (fun c x => Rl μ c.1 x) cl l := by
 induction h with
 | nil => exact ⟨[], rfl, .nil⟩
 | cons h1 _ ih =>
  obtain ⟨cl, e, a⟩ := ih
  exact ⟨b.cell h1 :: cl, by rw [bP, bQ, e]; rfl, .cons h1 a⟩
theorem xd.lit (g : Deep Rl k) {W : World} {b m : Nat} {ys : List Value} {e : TypeId} (h : CK Rl k μ ys l) (hm : l.length = m) (i : m ≤ maxLen) (j : W.heap[b]? = some (.cells ys.toArray e (0, 0))) : xd Rl k μ W (.slice (some ⟨b, 0, none⟩) m m) l := by
 obtain ⟨cl, d, a⟩ := h.cells g
 exact ⟨cl, Sl.M7 (by rw [a.length]; exact hm) i d.symm j, a⟩
theorem Sl.imp {R R' : pE β} (h : Sl R k μ v l) (q : ∀ ys x, R μ ys x → R' μ ys x) : Sl R' k μ v l := by
 obtain ⟨A, c, rfl, h1, a, d⟩ := h
 refine ⟨A, c, rfl, h1, a, fun r => ?_⟩
 obtain ⟨b, off, cs, T, fr, rfl, p, g⟩ := d r
 exact ⟨b, off, cs, T, fr, rfl, p, fun i x s => let ⟨ys, j, m, n⟩ := g i x s; ⟨ys, j, q _ _ m, n⟩⟩
theorem Ds : ∀ (l : List Nat) (n : Nat), n ∈ l → n ≤ l.foldr max 0
 | [], n, h => by cases h
 | a :: l, n, h => by
  rcases aR.1 h with rfl | h
  ·exact Nat.le_max_left _ _
  ·exact dT (Ds l n h) (Nat.le_max_right _ _)
theorem Sl.QS {R : pE β} {a : Nat → pE β} (h : Sl R k μ v l) (D : ∀ ys x, R μ ys x → ∃ n, a n μ ys x) (up : ∀ n m ys x, n ≤ m → a n μ ys x → a m μ ys x) : ∃ n, Sl (a n) k μ v l := by
 obtain ⟨A, c, rfl, h1, s, w⟩ := h
 by_cases t : 0 < l.length
 ·obtain ⟨b, off, cs, T, fr, rfl, E, z⟩ := w t
  obtain ⟨G, I, u⟩ := BJ (P := fun i x (p : Nat × List Value) => p.2.length = k ∧ a p.1 μ p.2 x ∧ ∀ j y, p.2[j]? = some y → cs[off + i * k + j]? = some y) (m := l) 0 (fun i x r => by
   obtain ⟨ys, g, q, d⟩ := z i x r
   obtain ⟨n, F⟩ := D _ _ q
   exact ⟨(n, ys), g, F, by rw [fe]; exact d⟩)
  refine ⟨(G.map (·.1)).foldr max 0, _, c, rfl, h1, s, fun _ => ⟨b, off, cs, T, fr, rfl, E, fun i x r => ?_⟩⟩
  obtain ⟨p, hp, g, q, d⟩ := u i x r
  exact ⟨p.2, g, up _ _ _ _ (Ds _ _ (bL.2 ⟨p, dI hp, rfl⟩)) q, by rw [fe] at d; exact d⟩
 ·exact ⟨0, A, c, rfl, h1, s, fun h => absurd h t⟩
def kD (e : TypeId) (Rl : pE β) (k : Nat) (μ : kl) (v : Value) (l : List β) (B : List (Nat × Obj)) : Prop := ∃ cl : List (xa k), jT e uY k v cl B ∧ pf (fun c x => Rl μ c.1 x) cl l
variable {e : TypeId} {B : List (Nat × Obj)}
theorem kD.mono (b : Deep Rl k) (h : kD e Rl k μ v l B) (d : kd μ μ') : kD e Rl k μ' v l B := by
 obtain ⟨cl, h1, a⟩ := h
 exact ⟨cl, h1, a.imp (fun _ _ h => b.mono _ _ _ _ d h)⟩
theorem kD.nil (e : TypeId) (Rl : pE β) (k : Nat) (μ : kl) : kD e Rl k μ (.slice none 0 0) [] [] := ⟨[], jT.nil _ _ _, .nil⟩
theorem kD.lit (g : Deep Rl k) {b m : Nat} {ys : List Value} (h : CK Rl k μ ys l) (hm : l.length = m) (i : m ≤ maxLen) (j : ys.length = m * k) : kD e Rl k μ (.slice (some ⟨b, 0, none⟩) m m) l [(b, .cells ys.toArray e (0, 0))] := by
 obtain ⟨cl, d, a⟩ := h.cells g
 exact ⟨cl, jT.lit (by rw [a.length]; exact hm) i d.symm (by simpa using j), a⟩
theorem kD.form (h : kD e Rl k μ v l B) : ∃ A c, v = .slice A l.length c := by
 obtain ⟨cl, h1, a⟩ := h
 rw [← a.length]; exact h1.form
theorem kD.len (h : kD e Rl k μ v l B) : l.length ≤ 9223372036854775807 := by
 obtain ⟨cl, h1, a⟩ := h
 rw [← a.length]; exact h1.len
theorem kD.nd (h : kD e Rl k μ v l B) : (B.map (·.1)).Nodup := let ⟨_, h1, _⟩ := h; h1.nd
theorem kD.isNil {n c : Nat} (h : kD e Rl k μ (.slice none n c) l B) : l = [] := by
 obtain ⟨cl, h1, a⟩ := h
 have := a.length
 rw [h1.isNil] at this
 exact aU this.symm
theorem kD.sl (h : kD e Rl k μ v l B) (d : Deep Rl k) (g : kd μ μ') (hm : ∀ b o, (b, o) ∈ B → μ' b = some o) : Sl Rl k μ' v l := by
 obtain ⟨cl, h1, a⟩ := h
 exact Sl.Mv (h1.sl yH hm) (kd.refl _) (a.imp (fun _ _ h => d.mono _ _ _ _ g h))
end
section
variable {β : Type} {Rl : pE β} {k : Nat} {μ : kl} {v : Value} {l : List β} {e : TypeId} {B : List (Nat × Obj)}
variable {dd : Bool} {F : Nat → Prop} {w W : World} {L : List (Nat × Obj)}
theorem kD.RB (h : kD e Rl k μ v l B) (b : Deep Rl k) (a : ST dd F w W μ L) (d : ∀ p, p ∈ B → p ∈ L) : Sl Rl k (hp W) v l := h.sl b a.jD (fun _ _ g => a.at_ (d _ g))
theorem xd.row (h : kD e Rl k μ v l B) (a : ST dd F w W μ L) (d : ∀ p, p ∈ B → p ∈ L) : xd Rl k μ W v l := let ⟨cl, h1, b⟩ := h; ⟨cl, h1.RB yH a d, b⟩
theorem ST.so {Y : List (Nat × Obj)} (g : Deep Rl k) (a : ST dd F w W μ (B ++ Y)) (h : kD e Rl k μ v l B) : ∃ μ', ST dd F w W μ' Y ∧ kd μ μ' ∧ Lo F w μ μ' ∧ Sl Rl k μ' v l := by
 obtain ⟨cl, h1, d⟩ := h
 obtain ⟨μ', b, a2, a4, a3⟩ := ST.NR a h1 yH
 exact ⟨μ', b, a2, a4, Sl.Mv a3 (kd.refl _) (d.imp (fun _ _ h => g.mono _ _ _ _ a2 h))⟩
variable {P : Program} {E : Nat → Value} {d : Option Nat} {ty : TypeId} {pos : String} {af : Array Edge} {g : Option (Nat × Bool)}
theorem lK {t e' : TypeId} {x a : Operand} {z : IntKind} {i : Int} {x0 : β} {A : List Value → Prop} (r : ∀ {ys}, Rl μ ys x0 → A ys) (u : P.underlying t = some (.slice e')) (he : ∀ w, (sizeOf e').run P w = .ok k w) (y : jG E x = v) (n : jG E a = .int z i) (s : Sl Rl k μ v l) (b : 0 ≤ i) (q : l[i.toNat]? = some x0) :
  ∃ p, (∃ ys, A ys ∧ At μ p ys) ∧ ∀ W, lQ P E ⟨d, .indexAddr t x a, ty, pos, af, g⟩ W p W := by
 obtain ⟨p, ys, _, h, j, m⟩ := Kc (d := d) (ty := ty) (pos := pos) (af := af) (g := g) u he y n s b q
 exact ⟨p, ⟨ys, r h, j⟩, m⟩
theorem rL {x : Operand} {t e' : TypeId} (a : P.underlying t = some (.slice e')) (b : jG E x = v) (h : kD e Rl k μ v l B) : lQ P E ⟨d, .call ⟨.builtin .len, #[x], #[t]⟩, ty, pos, af, g⟩ W (.int .i64 l.length) W := by
 obtain ⟨A, c, rfl⟩ := h.form
 exact Aq a b
theorem kN {t e' : TypeId} {x j : Operand} {F : IntKind} {i : Int} {x0 : β} {A : List Value → Prop} (u : ∀ {ys}, Rl μ ys x0 → A ys) (z : P.underlying t = some (.slice e')) (he : ∀ w, (sizeOf e').run P w = .ok k w) (D : jG E x = v) (r : jG E j = .int F i) (h : kD e Rl k μ v l B) (m : 0 ≤ i) (s : l[i.toNat]? = some x0) :
  ∃ p, (∃ ys, A ys ∧ At (zV B) p ys ∧ Ab B k p i.toNat) ∧ ∀ W, lQ P E ⟨d, .indexAddr t x j, ty, pos, af, g⟩ W p W := by
 obtain ⟨cl, h1, n⟩ := h
 obtain ⟨c, b, y⟩ := n.get s
 obtain ⟨p, a, q⟩ := pe (d := d) (ty := ty) (pos := pos) (af := af) (g := g) z he D r h1 m b
 exact ⟨p, ⟨c.1, u y, a.at h1 yH b, a⟩, q⟩
theorem M5 {α g : Type} {a : Nat} {l m r : List α} {b d : List g} (h : mu a l m = some r) (h1 : b.length = l.length) (i : d.length = m.length) : mu a b d = some (b ++ d) ∧ r = l ++ m := by
 unfold mu at h ⊢
 rw [h1, i]
 split at h
 ·rename_i j; cases h; rw [bD j]; exact ⟨rfl, rfl⟩
 ·cases h
theorem oU {K : Value → World → Prop} {t : TypeId} {a : Nat} {z vs : Value} {m r : List β} {Y : List (Nat × Obj)} {x y : Operand} {i : TypeInfo} (hD : Deep Rl k) (j : ST dd F w W μ (B ++ Y)) (q : 0 < k) (Q : P.underlying t = some (.slice e)) (M : P.info? e = some i) (U : i.zero = some z) (u : z.cells.size = k) (s : i.size = k) (p : i.bytes = a) (R : jG E x = v) (T : jG E y = vs) (J : kD e Rl k μ v l B) (O : xd Rl k μ W vs m) (L : mu a l m = some r) (h : ∀ W' b R', ST dd F w W' μ (R' ++ Y) → kD e Rl k μ b r R' → K b W') : nn P E ⟨d, .call ⟨.builtin .append, #[x, y], #[t, t]⟩, ty, pos, af, g⟩ W K := by
 obtain ⟨cl, h1, A⟩ := J
 obtain ⟨Z, I, D⟩ := O
 obtain ⟨n, rfl⟩ := M5 L A.length D.length
 exact ns j yH q Nu Q M U u s p R T h1 I n (fun W' b R' G a2 => h W' b R' G ⟨_, a2, A.append D⟩)
theorem qp {K : Value → World → Prop} {Y : List (Nat × Obj)} {t : TypeId} {x y : Operand} {p : Value} {i : Nat} {x0 x1 : β} {ys : List Value} (n : Deep Rl k) (a : ST dd F w W μ (B ++ Y)) (h : kD e Rl k μ v l B) (z : jG E x = p) (A : jG E y = .agg ys.toArray) (j : Rl μ ys x1) (hp : Ab B k p i) (u : l[i]? = some x0) (r : ∀ w, (sizeOf t).run P w = .ok k w) (q : ∀ W' R', ST dd F w W' μ (R' ++ Y) → kD e Rl k μ v (l.set i x1) R' → K undef W') : nn P E ⟨d, .store t x y, ty, pos, af, g⟩ W K := by
 obtain ⟨cl, h1, b⟩ := h
 obtain ⟨c, s, _⟩ := b.get u
 exact Co (x1 := n.cell j) a h1 yH Nu z A rfl hp s r (fun W' R' m a2 => q W' R' m ⟨_, a2, b.set j i⟩)
end
end Go.Proofs.YtmlncblocfcmiaaGreat
namespace Go.Proofs.YtmlncblocfcmiaaGreat
open Go.RowKit
def lB (dd : Bool) (P : Program) (f : FuncId) (args : List Value) (w : World) (μ0 : kl) (L0 : List (Nat × Obj)) (K : Value → List (Nat × Obj) → kl → Prop) : Prop :=
 Calls P f args.toArray w fun e a => ∃ v L1 μ1, e = .returned v ∧ tT dd L0 L1 w a ∧ kd μ0 μ1 ∧ Lo (keys L0) w μ0 μ1 ∧ kd μ1 (uc a L1) ∧ K v L1 μ1
theorem lB.li {dd : Bool} {P : Program} {f : FuncId} {args : List Value} {w : World} {μ0 : kl} {L0 : List (Nat × Obj)} {K : Value → List (Nat × Obj) → kl → Prop} (h : lB true P f args w μ0 L0 K) : lB dd P f args w μ0 L0 K :=
 dV h fun _ _ ⟨v, L1, μ1, h1, a, b⟩ => ⟨v, L1, μ1, h1, a.li, b⟩
section
variable {dd : Bool} {F : Nat → Prop} {w W W' : World} {μ μ1 : kl} {L L0 L1 L2 : List (Nat × Obj)}
theorem ST.QY (h : ST dd F w W μ (L0 ++ L)) (i : tT dd L0 L1 W W') (j : Lo (keys L0) W μ μ1) (g : kd μ1 (uc W' L1)) : ST dd F w W' μ1 (L1 ++ L) := by
 have h1 := h.back i
 refine ⟨h1.os, h1.tape, h1.output, h1.drawn, h1.size, h1.mo, fun b o hm => ?_, fun b o a => ?_, h1.nd⟩
 ·have := g b o hm
  unfold uc at this
  split at this
  ·cases this
  ·exact this
 ·obtain ⟨k, m, l⟩ := h1.box b o a
  refine ⟨k, ?_, l⟩
  rcases aV.1 a with a | a
  ·cases hm : μ1 b with
   | none => rfl
   | some x =>
    have := g b x hm
    unfold uc at this
    rw [bD ⟨o, a⟩] at this
    cases this
  ·have d := h.box b o (ez _ a)
   rw [j b (nS d.1) (Eo h.nd a)]
   exact d.2.1
variable {P : Program} {E : Nat → Value} {d : Option Nat} {ty : TypeId} {pos : String} {af : Array Edge} {g : Option (Nat × Bool)}
theorem Ft {K : Value → World → Prop} {K' : Value → List (Nat × Obj) → kl → Prop} {f : FuncId} {fv : Operand} {ax : Array Operand} {ats : Array TypeId} {caps : Array Value} {args : List Value} (L0 L2 : List (Nat × Obj)) (a : ST dd F w W μ L) (i : L.Perm (L0 ++ L2)) (u : jG E fv = .func (.func f) #[] caps) (he : ∀ args w, (callFunc f args).run P w = .ok (.enter f args) w) (ha : ax.map (jG E) ++ (#[] : Array Value) = args.toArray) (t : Ei L0 W → (L0.map (·.1)).Nodup → kd μ (uc W L0) → (∀ b o, (b, o) ∈ L2 → uc W L0 b = some o) → lB dd P f (args ++ caps.toList) W μ L0 K') (h : ∀ W' v μ' L1, ST dd F w W' μ' (L1 ++ L2) → kd μ μ' → Lo F w μ μ' → K' v L1 μ' → K v W') : nn P E ⟨d, .call ⟨.value fv, ax, ats⟩, ty, pos, af, g⟩ W K := by
 have j : ax.map (jG E) = args.toArray := by simpa using ha
 refine Ez (args := (args ++ caps.toList).toArray) u he (by rw [j]; simp) (dV (t (a.held i) (a.P3 i) (a.Qv i) (a.J0 i)) (fun _ W' ⟨v, L1, μ1, h1, l, m, k, n, p⟩ => ⟨v, h1, h W' v μ1 L1 ((a.perm i).QY l k n) m (fun b s r => k b (eF s a.size) (fun ⟨o, x⟩ => by
  rcases ((a.perm i).box b o (cJ _ x)).2.2 with q | q
  ·omega
  ·exact r q)) p⟩))
end
end Go.Proofs.YtmlncblocfcmiaaGreat
namespace Go.Proofs.YtmlncblocfcmiaaGreat
open Go.RowKit
section
variable {P : Program} {E : Nat → Value} {W : World} {d : Option Nat} {ty : TypeId} {pos : String} {af : Array Edge} {g : Option (Nat × Bool)}
 {dd : Bool} {F : Nat → Prop} {w : World} {μ : kl} {L : List (Nat × Obj)}
def Dv {α : Type} (a : Nat) (z : α) (n : Int) : Option (List α) := if 0 ≤ n ∧ (a : Int) * n ≤ 140737488355328 ∧ n ≤ (maxLen : Int) then some (List.replicate n.toNat z) else none
theorem G4 {α : Type} {enc : α → List Value} {k : Nat} (hk : ∀ x, (enc x).length = k) (a : 0 < k) (z : α) (n : Nat) : (madeCells (enc z).toArray (n * k)).toList = ((List.replicate n z).map enc).flatten := by
 apply List.ext_getElem
 ·rw [pL hk, dO, size_madeCells]; simp
 ·intro i h1 h
  rw [dO, size_madeCells] at h1
  have j : i / k < n := by rw [gP a]; exact h1
  have d : i % k < (enc z).length := by rw [hk]; exact Nat.mod_lt _ a
  have b := wE hk (List.replicate n z) (i / k) z (by rw [List.getElem?_replicate, bD j]) (i % k) _ (cN d)
  rw [show i / k * k + i % k = i by rw [Nat.mul_comm]; exact Nat.div_add_mod i k] at b
  rw [cN h] at b
  have g := Option.some.inj b
  rw [g]
  simp only [madeCells, Array.getElem_toList, Array.getElem_map, Array.getElem_range, ew, hk]
  rw [getElem!_pos _ _ (by simpa using d)]
  simp
theorem JO {K : Value → World → Prop} {α : Type} {e t : TypeId} {enc : α → List Value} {k a : Nat} {b : Value} {n : Int} {l : IntKind} {z : α} {r : List α} {x y : Operand} {i : TypeInfo} (m : ST dd F w W μ L) (hk : ∀ x, (enc x).length = k) (s : 0 < k) (O : P.underlying t = some (.slice e)) (J : P.info? e = some i) (T : i.zero = some b) (u : i.size = k) (q : i.bytes = a) (I : b.cells = (enc z).toArray) (Q : jG E x = .int l n) (R : jG E y = .int l n) (j : Dv a z n = some r) (h : ∀ W' v R', ST dd F w W' μ (R' ++ L) → jT e enc k v r R' → K v W') : nn P E ⟨d, .makeSlice t x y, ty, pos, af, g⟩ W K := by
 unfold Dv at j
 split at j
 case isFalse => cases j
 rename_i p
 cases j
 obtain ⟨A, h1, D⟩ := p
 subst u; subst q
 have G : n.toNat ≤ maxLen := by omega
 have M := run_make (P := P) W t e i b O J T l l n n A (Int.le_refl _) (by omega) (by simp only [maxLen] at D; omega)
 refine .inl ⟨.slice (some ⟨W.heap.size, 0, none⟩) n.toNat n.toNat, W.alloc (.cells (madeCells b.cells (n.toNat * i.size)) e), ?_, h _ _ [(W.heap.size, .cells (madeCells b.cells (n.toNat * i.size)) e)] (m.alloc _) ?_⟩
 ·show (do pure (.value (← Instr.makeSlice t (jG E x) (jG E y))) : Sem Next).run P W = _
  rw [Q, R]
  simp only [cF, M, bT, dC]
 ·exact jT.lit (by rw [List.length_replicate]) G (by rw [I]; exact G4 hk s z _) (by rw [size_madeCells])
end
theorem tJ.Ac {κ γ : Type} {kenc : κ → Value} {Q : Value → γ → List (Nat × Obj) → Prop} {μ : kl} {v : Value} {l : List (κ × γ)} (h : tJ kenc Q μ v l) : v.oneCell' = true := by
 obtain ⟨a, R, h, _⟩ := h
 obtain ⟨m, rfl⟩ := h.form
 rfl
theorem vZ.Ac {κ β : Type} {kenc : κ → Value} {vf : β → Value} {μ : kl} {v : Value} {l : List (κ × β)} (h : vZ kenc vf μ v l) : v.oneCell' = true := by
 obtain ⟨m, rfl⟩ := h.form
 rfl
end Go.Proofs.YtmlncblocfcmiaaGreat
namespace Go.Proofs.YtmlncblocfcmiaaGreat
open Go.RowKit
section
variable {dd : Bool}
def AD {α : Type} (R : pE α) : kl → List Value → α → Prop := fun μ vs x => ∃ ys, vs = [.agg ys.toArray] ∧ R μ ys x
def vg {α β : Type} (R : pE α) (S : pE β) : kl → List Value → α × β → Prop := fun μ vs x => ∃ ys zs, vs = [.agg ys.toArray, .agg zs.toArray] ∧ R μ ys x.1 ∧ S μ zs x.2
theorem AD.mk {α : Type} {R : pE α} {k : Nat} {μ μ' : kl} {ys : List Value} {x : α} (a : Deep R k) (h : R μ ys x) (b : kd μ μ') : AD R μ' [.agg ys.toArray] x := ⟨ys, rfl, a.mono _ _ _ _ b h⟩
theorem vg.mk {α β : Type} {R : pE α} {S : pE β} {k m : Nat} {μ μ' : kl} {ys zs : List Value} {x : α} {y : β} (d : Deep R k) (g : Deep S m) (h : R μ ys x) (b : S μ zs y) (a : kd μ μ') : vg R S μ' [.agg ys.toArray, .agg zs.toArray] (x, y) :=
 ⟨ys, zs, rfl, d.mono _ _ _ _ a h, g.mono _ _ _ _ a b⟩
def xy {α β : Type} (P : Program) (fv : Value) (μ : kl) (a : kl → List Value → α → Prop) (b : β → Value) (pm : α → Option β) : Prop :=
 ∃ f first caps, fv = .func (.func f) first caps ∧ (∀ args w, (callFunc f args).run P w = .ok (.enter f args) w) ∧ ∀ W x vs r, kd μ (hp W) → a (hp W) vs x → pm x = some r → jS false P f (first.toList ++ (vs ++ caps.toList)) W (b r)
theorem xy.form {α β : Type} {P : Program} {fv : Value} {μ : kl} {d : kl → List Value → α → Prop} {g : β → Value} {pm : α → Option β} (h : xy P fv μ d g pm) : ∃ f a b, fv = .func f a b := let ⟨f, a, b, h, _⟩ := h; ⟨_, a, b, h⟩
end
section
variable {P : Program} {W : World} {E : Nat → Value} {d : Option Nat} {ty : TypeId} {pos : String} {af : Array Edge} {g : Option (Nat × Bool)} {F : Nat → Prop} {w : World} {μ μ0 : kl} {L : List (Nat × Obj)}
theorem xy.mono {α β : Type} {fv : Value} {a : kl → List Value → α → Prop} {b : β → Value} {pm : α → Option β} (h : xy P fv μ a b pm) (i : kd μ μ0) : xy P fv μ0 a b pm := by
 obtain ⟨f, first, caps, h1, d, g⟩ := h
 exact ⟨f, first, caps, h1, d, fun W x vs r h => g W x vs r (i.trans h)⟩
theorem yz {α β : Type} {K : Value → World → Prop} {fv : Value} {j : kl → List Value → α → Prop} {k : β → Value} {pm : α → Option β} {b : Operand} {ax : Array Operand} {ats : Array TypeId} (x : α) {vs : List Value} {r : β} (a : ST false F w W μ L) (s : xy P fv μ0 j k pm) (u : kd μ0 μ) (q : j (hp W) vs x) (t : jG E b = fv) (ha : ax.map (jG E) ++ (#[] : Array Value) = vs.toArray) (hm : pm x = some r) (h : ∀ W', ST false F w W' μ L → K (k r) W') : nn P E ⟨d, .call ⟨.value b, ax, ats⟩, ty, pos, af, g⟩ W K := by
 obtain ⟨f, first, caps, rfl, l, m⟩ := s
 have i : ax.map (jG E) = vs.toArray := by simpa using ha
 refine .inr (.inr ⟨f, (first.toList ++ (vs ++ caps.toList)).toArray, ?_, dV (m W x vs r (u.trans a.jD) q hm) (fun _ _ ⟨n, p⟩ => ⟨_, n, h _ (a.Ic p)⟩)⟩)
 show (do let d ← resolve (jG E) ⟨.value b, ax, ats⟩ ty; invoke d.target d.args : Sem Next).run P W = _
 simp only [resolve, t, Deferred.ofValue, cF, dC, bT, invoke, i, l]
 congr 2
 simp
end
section
variable {dd : Bool}
variable {β : Type} {Rl : pE β} {k : Nat} {μ : kl} {v : Value} {l : List β} {e : TypeId} {B : List (Nat × Obj)}
variable {F : Nat → Prop} {w W : World} {L : List (Nat × Obj)}
variable {P : Program} {E : Nat → Value} {d : Option Nat} {ty : TypeId} {pos : String} {af : Array Edge} {g : Option (Nat × Bool)}
theorem It {α : Type} {enc : α → List Value} (hk : ∀ x, (enc x).length = k) (d : 0 < k) (g : ∀ x y, enc x = enc y → x = y) : ∀ {l m : List α}, (l.map enc).flatten = (m.map enc).flatten → l = m
 | [], [], _ => rfl
 | [], b :: m, h => by
  have := bN List.length h
  simp only [eW, dG, bW, bP, bQ, aF, hk] at this
  omega
 | a :: l, [], h => by
  have := bN List.length h
  simp only [eW, dG, bW, bP, bQ, aF, hk] at this
  omega
 | a :: l, b :: m, h => by
  simp only [bP, bQ] at h
  obtain ⟨h1, i⟩ := List.append_inj h (by rw [hk, hk])
  rw [g _ _ h1, It hk d g i]
theorem RP (x y : xa k) (h : uY x = uY y) : x = y := Subtype.ext h
theorem jT.pre {v1 : Value} {cl a : List (xa k)} (d : 0 < k) (h : jT e uY k v cl B) (h1 : jT e uY k v1 a B) (b : a.length ≤ cl.length) : a = cl.take a.length := by
 rcases h with ⟨rfl, rfl, rfl⟩ | ⟨q, cap, cur, rfl, rfl, r, s, t, n⟩
 ·simp at b; simp [b]
 ·rcases h1 with ⟨_, _, h⟩ | ⟨g1, g, i, rfl, j, p, a2, a3, a4⟩
  ·cases h
  ·cases j
   refine It yH d RP ?_
   rw [← a4]
   have hle : a.length * k ≤ cl.length * k := cO _ b
   have : cur.toList.take (a.length * k) = (cur.toList.take (cl.length * k)).take (a.length * k) := by rw [gE, dZ hle]
   rw [this, n]
   have l : (cl.map uY).flatten = ((cl.take a.length).map uY).flatten ++ ((cl.drop a.length).map uY).flatten := by rw [← cT, ← cL, fq]
   have m : ((cl.take a.length).map uY).flatten.length = a.length * k := by rw [pL yH, dF, dZ b]
   rw [l, ← m, List.take_left]
theorem pf.replicate {α β : Type} {Q : α → β → Prop} {a : α} {b : β} (h : Q a b) : ∀ n, pf Q (List.replicate n a) (List.replicate n b)
 | 0 => .nil
 | n + 1 => .cons h (pf.replicate h n)
theorem pf.RL {α β : Type} {Q : α → β → Prop} {l : List α} {m : List β} (h : pf Q l m) {a : α} {b : β} (d : Q a b) (i : Nat) : pf Q (oz l i a) (oz m i b) := by
 unfold oz
 rw [h.length]
 exact (h.take i).append (pf.replicate d _)
theorem CH {t e' : TypeId} {x ih : Operand} {u : IntKind} {i : Int} (r : P.underlying t = some (.slice e')) (he : ∀ w, (sizeOf e').run P w = .ok k w) (s : jG E x = v) (p : jG E ih = .int u i) (h : kD e Rl k μ v l B) (j : 0 ≤ i) (q : i ≤ l.length) :
  ∃ a, kD e Rl k μ a (l.take i.toNat) B ∧ ∀ W, lQ P E ⟨d, .slice t x none (some ih) none, ty, pos, af, g⟩ W a W := by
 obtain ⟨cl, h1, b⟩ := h
 obtain ⟨a, m, n⟩ := D9 (d := d) (ty := ty) (pos := pos) (af := af) (g := g) r he s p h1 yH j (by rw [b.length]; exact q)
 exact ⟨a, ⟨_, m, b.take _⟩, n⟩
theorem AE {t e' : TypeId} {x a : Operand} {r : IntKind} {i : Int} (p : P.underlying t = some (.slice e')) (he : ∀ w, (sizeOf e').run P w = .ok k w) (q : jG E x = v) (m : jG E a = .int r i) (h : kD e Rl k μ v l B) (b : 0 ≤ i) (n : i ≤ l.length) :
  ∃ u, Ak k v i.toNat u ∧ ∀ W, lQ P E ⟨d, .slice t x (some a) none none, ty, pos, af, g⟩ W u W := by
 obtain ⟨cl, h1, j⟩ := h
 exact zo p he q m h1 b (by rw [j.length]; exact n)
theorem KN {t e' : TypeId} {x : Operand} {u : Value} {i : Nat} (b : P.underlying t = some (.slice e')) (j : jG E x = u) (hu : Ak k v i u) (h : kD e Rl k μ v l B) : lQ P E ⟨d, .call ⟨.builtin .len, #[x], #[t]⟩, ty, pos, af, g⟩ W (.int .i64 ((l.length - i : Nat) : Int)) W := by
 obtain ⟨cl, h1, a⟩ := h
 rw [← a.length]
 exact HR b j hu h1
theorem AM {t e' : TypeId} {x j : Operand} {G : IntKind} {i : Int} {x0 : β} {u : Value} {o : Nat} {A : List Value → Prop} (y : ∀ {ys}, Rl μ ys x0 → A ys) (D : P.underlying t = some (.slice e')) (he : ∀ w, (sizeOf e').run P w = .ok k w) (F : jG E x = u) (r : jG E j = .int G i) (h : kD e Rl k μ v l B) (hu : Ak k v o u) (m : 0 ≤ i) (s : (l.drop o)[i.toNat]? = some x0) :
  ∃ p, (∃ ys, A ys ∧ At (zV B) p ys ∧ Ab B k p (o + i.toNat)) ∧ ∀ W, lQ P E ⟨d, .indexAddr t x j, ty, pos, af, g⟩ W p W := by
 obtain ⟨cl, h1, n⟩ := h
 obtain ⟨c, b, z⟩ := (n.drop o).get s
 obtain ⟨p, a, q⟩ := zg (d := d) (ty := ty) (pos := pos) (af := af) (g := g) D he F r h1 hu m b
 exact ⟨p, ⟨c.1, y z, a.at h1 yH (AB b), a⟩, q⟩
theorem DD {K : Value → World → Prop} {z : β} {zs : List Value} {Y : List (Nat × Obj)} {t e' : TypeId} {x : Operand} {u j : Value} {i : Nat} (p : Deep Rl k) (b : ST dd F w W μ (B ++ Y)) (h : kD e Rl k μ v l B) (a : Rl μ zs z) (s : P.underlying t = some (.slice e')) (A : ∀ w, (zeroValue e').run P w = .ok j w) (hu : Ak k v i u) (r : j.cells = zs.toArray) (y : jG E x = u) (q : ∀ W' R', ST dd F w W' μ (R' ++ Y) → kD e Rl k μ v (oz l i z) R' → K (.tuple #[]) W') : nn P E ⟨d, .call ⟨.builtin .clear, #[x], #[t]⟩, ty, pos, af, g⟩ W K := by
 obtain ⟨cl, h1, n⟩ := h
 exact BH (p.cell a) b h1 yH Nu s A hu r y (fun W' R' m a2 => q W' R' m ⟨_, a2, n.RL a i⟩)
end
section
variable {P : Program} {W : World} {E : Nat → Value} {d : Option Nat} {ty : TypeId} {pos : String} {af : Array Edge} {g : Option (Nat × Bool)}
theorem MV {i p : TypeId} {x y : Operand} {fv : Value} {s u : Array TypeId} {j : Bool} (l : P.underlying i = some (.func s u j)) (h : ∃ f a b, fv = .func f a b) (m : jG E x = fv) (n : jG E y = .nilFunc) :
  lQ P E ⟨d, .binOp .neq i x y p, ty, pos, af, g⟩ W (.bool true) W := by
 obtain ⟨f, a, b, rfl⟩ := h
 show (do let r ← (do eqGuard .neq i x y (jG E x) (jG E y); binOp .neq i (jG E x) (jG E y)); pure (.value r) : Sem Next).run P W = _
 rw [m, n]
 have k := Ff 9999 l f a b W
 simp [eqGuard, binOp, Op.equal, show Op.maxDepth = 9999 + 1 from rfl, k]
end
end Go.Proofs.YtmlncblocfcmiaaGreat
namespace Go.Proofs.YtmlncblocfcmiaaGreat
open Go.RowKit
theorem bS {α β : Type} {m : Option α} {f : α → Option β} {r : β} {G : Prop} (h : m.bind f = some r) (k : ∀ x, m = some x → f x = some r → G) : G :=
 let ⟨x, a, b⟩ := bind_some h
 k x a b
theorem sj {α : Type} {a b : α} (h : some a = some b) : a = b := Option.some.inj h
theorem bC {α : Type} {b : Bool} {x y r : α} {G : Prop} (h : (if b = true then x else y) = r) (a : b = true → x = r → G) (d : b = false → y = r → G) : G := by
 rcases KT b with e | e
 ·exact a e (PD e h)
 ·exact d e (Px e h)
theorem cB {a b : Bool} (h : a = b) : Value.bool a = Value.bool b := bN Value.bool h
theorem nb {a b : Nat} (h : Nat.ble a b = true := by exact rfl) : a ≤ b := Nat.le_of_ble_eq_true h
def Rx : Nat → Nat → List Bool
 | 0, _ => []
 | n + 1, m => (m % 2 == 1) :: Rx n (m / 2)
def bm (n m : Nat) : Array Bool := (Rx n m).toArray
section
variable {P : Program} {n : Nat} {Q : qF} {E : Nat → Value} {W : World}
theorem CI {α : Type} {co : Operand} {b : Bool} {x y : Code} {A B r : α} (hm : (if b = true then A else B) = r) (a : jG E co = .bool b) (g : b = true → A = r → CW P n x Q E W) (d : b = false → B = r → CW P n y Q E W) : CW P n (.cond co x y) Q E W :=
 Le a (fun e => g e (PD e hm)) (fun e => d e (Px e hm))
theorem CJ {d ρ : Type} {m : Option d} {k : d → Option ρ} {r : ρ} {x : Code} {K : (Nat → Value) → World → Prop} (hm : m.bind k = some r) (I : d → (Nat → Value) → World → Prop) (h1 : ∀ s, m = some s → CW P n x (qo (I s) Q) E W) (g : ∀ s E W, I s E W → k s = some r → K E W) : CW P n x (qo K Q) E W :=
 let ⟨s, a, b⟩ := bind_some hm
 Mc (I s) (h1 s a) (fun E W h => g s E W h b)
theorem Rj {g ρ d : Type} {m : Option (d ⊕ g)} {k : d ⊕ g → Option ρ} {r : ρ} {x : Code} {K : (Nat → Value) → World → Prop} (hm : m.bind k = some r) (I : g → (Nat → Value) → World → Prop) (h1 : ∀ s, m = some s → k s = some r → CW P n x (qo (fun E W => ∃ t, s = .inr t ∧ I t E W) Q) E W) (i : ∀ s E W, I s E W → k (.inr s) = some r → K E W) : CW P n x (qo K Q) E W :=
 let ⟨s, a, b⟩ := bind_some hm
 Mc (fun E W => ∃ t, s = .inr t ∧ I t E W) (h1 s a b) (fun E W ⟨t, e, h⟩ => i t E W h (by subst e; exact b))
theorem LJ {d ρ : Type} {m : Option d} {k : d → Option ρ} {r : ρ} {ops : Array Oper} {rest : List Oper} (hm : m.bind k = some r) (I : d → (Nat → Value) → World → Prop) (j : Nat) (g : ∀ s E W, I s E W → k s = some r → LW P n ops Q (rest.drop j) E W) (h1 : ∀ s, m = some s → (∀ E W, I s E W → LW P n ops Q (rest.drop j) E W) → LW P n ops Q rest E W) : LW P n ops Q rest E W :=
 let ⟨s, a, b⟩ := bind_some hm
 h1 s a (fun E W h => g s E W h b)
theorem PJ {d ρ : Type} {m : Option d} {k : d → Option ρ} {r : ρ} {ops : Array Oper} {S : Array Bool → World → Prop} {fuel : Nat} {listed : Array Bool} (hm : m.bind k = some r) (I : d → (Nat → Value) → World → Prop) (i : Array Bool) (g : Nat) (j : ∀ s E W, I s E W → k s = some r → PX P n ops Q S g i E W) (h1 : ∀ s, m = some s → (∀ E W, I s E W → PX P n ops Q S g i E W) → PX P n ops Q S fuel listed E W) : PX P n ops Q S fuel listed E W :=
 let ⟨s, a, b⟩ := bind_some hm
 h1 s a (fun E W h => j s E W h b)
end
section
variable {dd : Bool} {P : Program} {fn : Func} {E : Nat → Value} {W w : World} {μ : kl} {L : List (Nat × Obj)}
theorem rP {t : Tmp} {v : Value} (a : ST dd ku w W μ L) (b : fn.results = #[.tmp t] := by exact rfl) (d : E t = v := by exact rfl) : xM P fn (fun e W' => e = .returned v ∧ Ex dd w W') .ret E W := kY b d ⟨rfl, a.ex⟩
end
theorem ST.DL {dd : Bool} {F : Nat → Prop} {w W : World} {μ : kl} {x : Nat × Obj} {L : List (Nat × Obj)} (h : ST dd F w W μ (x :: L)) : ST dd F w W μ ([x] ++ L) := h
theorem ST.NM {dd : Bool} {F : Nat → Prop} {w W : World} {μ : kl} {L : List (Nat × Obj)} (h : ST dd F w W μ L) : ST dd F w W μ ([] ++ L) := h
theorem aL {E : Nat → Value} {ax : Array Operand} {l : List Value} (h : ax.toList.map (jG E) = l) : ax.map (jG E) ++ (#[] : Array Value) = l.toArray := by subst h; apply Array.ext'; simp
section
variable {dd : Bool}
variable {P : Program} {E : Nat → Value} {W : World} {d : Option Nat} {ty : TypeId} {pos : String} {af : Array Edge} {g : Option (Nat × Bool)}
 {F : Nat → Prop} {w : World} {μ : kl} {L : List (Nat × Obj)}
variable {f : FuncId} {fv : Operand} {ax : Array Operand} {ats : Array TypeId} {args : List Value} {v : Value} {K : Value → World → Prop}
theorem Eg (a : ST dd F w W μ L) (he : ∀ args w, (callFunc f args).run P w = .ok (.enter f args) w) (b : jS dd P f args W v) (h : ∀ W', ST dd F w W' μ L → K v W') (i : jG E fv = .func (.func f) #[] #[] := by exact rfl) (ha : ax.toList.map (jG E) = args := by exact rfl) : nn P E ⟨d, .call ⟨.value fv, ax, ats⟩, ty, pos, af, g⟩ W K := ED a i he (aL ha) b h
theorem pv {α : Type} {e : TypeId} {enc : α → List Value} {k : Nat} {l : List α} {Y : List (Nat × Obj)} (a : ST dd F w W μ Y) (he : ∀ args w, (callFunc f args).run P w = .ok (.enter f args) w) (b : lz dd P f args W e enc k l) (h : ∀ W' v μ' R, ST dd F w W' μ' (R ++ Y) → kd μ μ' → Lo F w μ μ' → jT e enc k v l R → K v W') (i : jG E fv = .func (.func f) #[] #[] := by exact rfl) (ha : ax.toList.map (jG E) = args := by exact rfl) : nn P E ⟨d, .call ⟨.value fv, ax, ats⟩, ty, pos, af, g⟩ W K := Lp _ a i he (aL ha) b h
theorem zI {K' : Value → List (Nat × Obj) → World → Prop} {L0 L2 : List (Nat × Obj)} (i : ST dd F w W μ L) (j : L.Perm (L0 ++ L2)) (he : ∀ args w, (callFunc f args).run P w = .ok (.enter f args) w) (k : Ei L0 W → (L0.map (·.1)).Nodup → kd μ (uc W L0) → (∀ b o, (b, o) ∈ L2 → uc W L0 b = some o) → lF dd P f args W L0 K') (h : ∀ W' v μ' L1, ST dd F w W' μ' (L1 ++ L2) → kd μ μ' → Lo F w μ μ' → (∀ b, W.heap.size ≤ b → ∀ o, uc W' L1 b = some o → μ' b = some o) → K' v L1 W' → K v W') (l : jG E fv = .func (.func f) #[] #[] := by exact rfl) (ha : ax.toList.map (jG E) = args := by exact rfl) : nn P E ⟨d, .call ⟨.value fv, ax, ats⟩, ty, pos, af, g⟩ W K :=
 Pa L0 L2 i j l he (aL ha) (fun a b c d => by have := k a b c d; simpa using this) h
theorem Kz {K' : Value → List (Nat × Obj) → kl → Prop} {L0 L2 : List (Nat × Obj)} (i : ST dd F w W μ L) (j : L.Perm (L0 ++ L2)) (he : ∀ args w, (callFunc f args).run P w = .ok (.enter f args) w) (k : Ei L0 W → (L0.map (·.1)).Nodup → kd μ (uc W L0) → (∀ b o, (b, o) ∈ L2 → uc W L0 b = some o) → lB dd P f args W μ L0 K') (h : ∀ W' v μ' L1, ST dd F w W' μ' (L1 ++ L2) → kd μ μ' → Lo F w μ μ' → K' v L1 μ' → K v W') (l : jG E fv = .func (.func f) #[] #[] := by exact rfl) (ha : ax.toList.map (jG E) = args := by exact rfl) : nn P E ⟨d, .call ⟨.value fv, ax, ats⟩, ty, pos, af, g⟩ W K :=
 Ft L0 L2 i j l he (aL ha) (fun a b c d => by have := k a b c d; simpa using this) h
end
section
variable {E : Nat → Value} {x1 x2 x3 x4 x5 x6 x7 x8 : Operand} {v1 v2 v3 v4 v5 v6 v7 v8 : Value}
theorem Rr (h1 : jG E x1 = v1) : [x1].map (jG E) = [v1] := by rw [← h1]; rfl
theorem RX (h1 : jG E x1 = v1) (a : jG E x2 = v2) : [x1, x2].map (jG E) = [v1, v2] := by rw [← h1, ← a]; rfl
end
theorem RC {i j : Int} {E : Nat → Value} {x : Operand} {k : IntKind} (h : (i == j) = true) (a : jG E x = .int k i) : jG E x = .int k j := by rw [a, eq_of_beq h]
end Go.Proofs.YtmlncblocfcmiaaGreat
