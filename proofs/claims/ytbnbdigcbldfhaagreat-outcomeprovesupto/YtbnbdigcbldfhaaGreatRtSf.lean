/- a part of a proof of OutcomeProves -/
import Derived.WalkKit
import Derived.WalkLawsBesides
import Derived.Maps.AppendAt
import Derived.OrdersHeld
import Derived.Laws.IdiomStrings
import Derived.Maps.RangeRun
import Derived.Lib.BytesEntry
import Derived.Lib.Bytealg
import Derived.Laws.Externs
import Derived.ChangeKeysEq
import Derived.Deep.AppendSrc
set_option linter.all false
namespace Go.Proofs.YtbnbdigcbldfhaaGreat
open Go.RowKit
def aA := @Option.bind_some
def aB := @Bool.false_eq_true
def aD := @Int.natCast_nonneg
def aG := @List.drop_length
def aH := @List.length_cons
def aI := @List.length_append
def aJ := @if_neg
def aK := @if_pos
def aN := @List.mem_singleton
def aP := @Bool.and_eq_true
def aQ := @List.mem_cons
def aR := @List.mem_append
def aS := @if_false
def aT := @run_underlying
def aU := @congrArg
def aV := @List.append_assoc
def bA := @if_true
def bB := @List.getElem?_eq_some_iff
def bD := @Nat.le_refl
def bE := @List.map_cons
def bF := @List.mem_append_left
def bG := @List.cons.injEq
def bH := @Bool.eq_iff_iff
def bI := @List.mem_map
def bK := @decide_eq_true_eq
def bN := @Result.andThen_ok
def bO := @List.nodup_append
def bP := @List.eq_nil_of_length_eq_zero
def bT := @Nat.lt_succ_self
def bV := @List.nil_append
def bW := @Bool.not_true
def bX := @List.length_nil
def bY := @beq_self_eq_true
def cd := @Sem.run_bind
def cj := @List.getElem?_eq_getElem
def cn := @Nat.mul_le_mul_right
def cq := @List.map_append
def ct := @List.append_nil
def cv := @Bool.not_eq_true
def cy := @List.mem_append_right
def cz := @List.length_take
def cC := @Nat.add_mul
def cD := @Calls.mono
def cF := @List.cons_append
def cJ := @List.mem_filter
def cK := @Array.getElem?_eq_some_iff
def cL := @List.nodup_cons
def cM := @List.Perm.append_left
def cN := @List.size_toArray
def cO := @Nat.lt_of_lt_of_le
def cP := @Nat.min_eq_left
def cQ := @List.getElem?_eq_none
def cR := @Array.length_toList
def cT := @Bool.not_false
def cU := @Array.getD_eq_getD_getElem?
def cV := @List.take_of_length_le
def cZ := @Bool.eq_false_or_eq_true
def da := @List.not_mem_nil
def db := @Sem.run_pure
def de := @List.singleton_append
def df := @Array.getElem?_toList
def dg := @Nat.zero_add
def dh := @List.eq_nil_or_concat
def dj := @Nat.le_trans
def dm := @DataW.trod_struct
def dn := @and_true
def dq := @Addr.add_lit
def dt := @List.length_drop
def du := @List.Perm.refl
def dv := @List.flatten_cons
def dw := @List.getElem?_map
def dy := @List.pairwise_append
def dz := @List.getElem?_drop
def dA := @List.getElem?_take
def dB := @List.length_map
def dC := @Option.map_some
def dD := @List.getElem?_take_of_lt
def dE := @List.all_eq_true
def dF := @List.filter_sublist
def dG := @List.ext_getElem?
def dH := @List.length_eq_zero_iff
def dI := @Nat.eq_zero_or_pos
def dJ := @List.mem_cons_of_mem
def dL := @Array.getElem?_modify
def dM := @List.perm_append_comm
def dN := @Oper.upon_value
def dO := @Oper.upon_enter
def dP := @List.getElem_mem
def dR := @List.any_eq_true
def dS := @List.findIdx?_eq_some_iff_getElem
def dT := @List.map_map
def dU := @Bool.or_eq_true
def dV := @Classical.byContradiction
def dW := @List.length_filter_le
def dX := @List.pairwise_cons
def ed := @Bool.true_and
def ee := @List.sum_cons
def ej := @Nat.zero_le
def eo := @List.forall_mem_cons
def ep := @BitVec.ofInt_natCast
def et := @Nat.pow_le_pow_right
def eu := @Int.toNat_natCast
def ev := @bne_self_eq_false
def eE := @decide_true
def eF := @List.take_append
def eH := @Nat.testBit_succ
def eJ := @Oper.upon_skip
def eK := @List.take_take
def eO := @List.findIdx?_cons
def eQ := @List.mem_of_find?_eq_some
def eS := @Array.getElem?_eq_getElem
def eU := @List.getElem?_set
def eZ := @Nat.add_assoc
def fc := @ByteArray.toList_eq
def fg := @List.perm_middle
def fh := @or_false
def fj := @Nat.mul_le_mul
def fl := @List.filter_cons
def fp := @List.map_nil
def fw := @decide_false
def fx := @BitVec.toNat_ofNat
def fB := @List.all_cons
def fC := @Array.getElem?_append
def fD := @List.getElem?_toArray
def fE := @List.take_append_drop
def fF := @List.length_mergeSort
def fG := @List.pairwise_map
def fH := @Nat.lt_trichotomy
def fI := @List.flatMap_cons
def fJ := @cell_of_row
def fK := @List.getElem?_append
def fL := @List.getElem?_append_right
def fM := @List.getD_eq_getElem?_getD
def fN := @Nat.eq_of_mul_eq_mul_right
def fS := @Nat.testBit_zero
def fT := @Nat.mod_eq_of_lt
def fU := @List.pairwise_iff_getElem
def fV := @List.findIdx?_eq_none_iff
def fW := @List.Sublist.append
def fX := @List.Perm.nodup_iff
def fY := @List.flatten_append
def fZ := @List.mergeSort_perm
def ga := @Array.getElem?_replicate
def gb := @wp_mono
def gf := @beq_iff_eq
def gh := @List.map_mergeSort
def gu := @run_equalIn_struct
def gw := @List.getElem?_cons_zero
def gx := @List.pairwise_mergeSort
def gA := @List.drop_take
def gB := @Function.comp_def
def gC := @List.findIdx?_map
def gD := @Option.some.injEq
def gE := @List.Perm.append_right
def gF := @List.take_left
def gG := @of_decide_eq_true
def gH := @getElem!_pos
def ia := @Nat.pow_succ
def ib := @Nat.testBit_eq_decide_div_mod_eq
def ic := @Nat.div_lt_iff_lt_mul
def ie := @List.length_replicate
def ig := @Array.getElem?_mapIdx
def ij := @List.concat_eq_append
def iq := @List.mem_flatten
def ir := @Option.getD_some
def iy := @List.mem_flatMap
def iF := @Bool.false_or
def iG := @List.findIdx?_append
def iH := @List.mem_of_getElem?
def iL := @List.mem_of_mem_take
def iM := @List.length_set
def iN := @List.find?_cons
def iO := @List.find?_some
def iP := @Option.some.inj
def iS := @run_callFunc_extern
def iT := @List.filter_eq_self
def iU := @List.flatMap_append
def iV := @List.take_length_add_append
def iW := @Nat.lt_or_ge
def iX := @List.perm_append_comm_assoc
def jc := @run_loadCells_list
def jd := @grownCap_le_maxLen
def je := @List.map_replicate
def jt := @UInt8.toNat_lt
def ju := @eq_iff_iff
def jv := @Bool.and_assoc
def jw := @List.append_of_mem
def jx := @List.find?_eq_none
def jy := @List.mem_range
def jz := @Nat.le_succ
def jA := @run_storeCells_at
def jG := @Bool.not_eq_true'
def jH := @UInt8.ofNat_toNat
def jI := @List.getLast?_nil
def jJ := @List.length_range
def jK := @ByteArray.ext
def jX := @List.flatten_nil
def jY := @Nat.add_comm
def jZ := @Nat.add_zero
def km := @eq_comm
def ko := @Nat.one_mul
def kp := @getD_set_ne
def ky := @mem_ready
def nE (E : Nat → Value) (d : Nat) (v : Value) : Nat → Value := fun t => if t = d then v else E t
def kJ (E : Nat → Value) : Operand → Value
 | .tmp t => E t
 | .const v => v
 | .global g => .pointer (some ⟨g, 0, none⟩)
 | .func f => .func (.func f) #[] #[]
def Ag (n : Nat) (a : Act) (E : Nat → Value) : Prop := a.tmps.size = n ∧ a.defers = [] ∧ ∀ t, a.tmps.getD t undef = E t
section
variable {n : Nat} {a : Act} {E : Nat → Value}
theorem Ag.eval (h : Ag n a E) : a.eval = kJ E := by
 funext x
 cases x with
 | tmp t => exact h.2.2 t
 | const v => rfl
 | global g => rfl
 | func f => rfl
theorem Ag.put (h : Ag n a E) {d : Nat} (i : d < n) (v : Value) : Ag n (a.put (some d) v) (nE E d v) := by
 refine ⟨by simp [Act.put, h.1], h.2.1, fun t => ?_⟩
 have g := h.2.2 t
 simp only [Act.put, nE]
 by_cases c : t = d
 ·subst c
  simp [h.1, i]
 ·have : ¬ d = t := fun e => c e.symm
  rw [aJ c, ← g]
  simp [cU, this]
theorem Ag.xg (h : Ag n a E) (v : Value) : Ag n (a.put none v) E := h
theorem Ag.yield (h : Ag n a E) {ops : Array Oper} {j t : Nat} {b : Bool} (d : (ops[j]?).bind (·.dst) = some t) (i : t < n) (k : E t = .bool b) : yielded ops a.tmps j = some b := by
 have c := h.2.2 t
 have g : a.tmps[t]? = some (E t) := by
  rw [← c]
  simp [cU, h.1, i]
 simp [yielded, d, g, k]
end
abbrev ov := Exit → (Nat → Value) → World → Prop
def E0 : Nat → Value := fun _ => undef
def lift (n : Nat) (Q : ov) : Exit → Act → World → Prop
 | .panic c, a, w => a.defers = [] ∧ Q (.panic c) E0 w
 | .outgrown, _, _ => False
 | e, a, w => ∃ E, Ag n a E ∧ Q e E w
theorem Nv {n : Nat} {Q : ov} {c : List PanicEntry} {a : Act} {d : Option Nat} {v : Value} {w : World} (h : lift n Q (.panic c) (a.put d v) w) : lift n Q (.panic c) a w := by
 cases d <;> exact h
def CW (P : Program) (n : Nat) (c : Code) (Q : ov) (E : Nat → Value) (W : World) : Prop := ∀ a, Ag n a E → c.wp P (lift n Q) a W
def LW (P : Program) (n : Nat) (ops : Array Oper) (Q : ov) (l : List Oper) (E : Nat → Value) (W : World) : Prop := ∀ a, Ag n a E → wpList P ops (lift n Q) l a W
def qM (K : (Nat → Value) → World → Prop) (Q : ov) : ov
 | .normal, E, W => K E W
 | e, E, W => Q e E W
def ya (id : Nat) (Q : ov) : ov
 | .exit j, E, W => if j = id then Q .normal E W else Q (.exit j) E W
 | e, E, W => Q e E W
section
variable {P : Program} {n : Nat} {Q : ov} {E : Nat → Value} {W : World} {c x y : Code} {ops : Array Oper} {rest : List Oper} {o : Oper}
theorem Kv {Q' : ov} (h : CW P n c Q E W) (i : ∀ e E W, Q e E W → Q' e E W) : CW P n c Q' E W := fun a ha =>
 gb (h a ha) (fun e _ _ h => by
  cases e with
  | panic c => exact ⟨h.1, i _ _ _ h.2⟩
  | outgrown => exact h
  | _ => obtain ⟨E', d, g⟩ := h; exact ⟨E', d, i _ _ _ g⟩)
theorem kV (h : CW P n x (qM (fun E W => CW P n y Q E W) Q) E W) : CW P n (.seq x y) Q E W := fun a ha =>
 wp_seq (gb (h a ha) (fun e d i h => by
  cases e with
  | normal => obtain ⟨E', c, g⟩ := h; exact g d c
  | _ => exact h))
theorem lG (h : Q .normal E W) : CW P n .skip Q E W := fun _ ha => wp_skip ⟨E, ha, h⟩
theorem lx (h : Q .ret E W) : CW P n .ret Q E W := fun _ ha => wp_ret ⟨E, ha, h⟩
theorem ot {id : Nat} (h : Q (.exit id) E W) : CW P n (.exit id) Q E W := fun _ ha => wp_exit ⟨E, ha, h⟩
theorem mP {id : Nat} (h : CW P n c (ya id Q) E W) : CW P n (.block id c) Q E W := fun a ha =>
 wp_block (gb (h a ha) (fun e k m h => by
  cases e with
  | exit j =>
   obtain ⟨E', d, g⟩ := h
   simp only [Exit.inBlock]
   simp only [ya] at g
   split at g
   ·rename_i i; rw [aK i]; exact ⟨E', d, g⟩
   ·rename_i i; rw [aJ i]; exact ⟨E', d, g⟩
  | _ => exact h))
theorem Q2 {co : Operand} {b : Bool} (c : kJ E co = .bool b) (g : b = true → CW P n x Q E W) (d : b = false → CW P n y Q E W) : CW P n (.cond co x y) Q E W := fun a ha => by
 refine wp_cond_split (t := b) (by rw [ha.eval]; exact c) (fun h => g h a ha) (fun h => d h a ha)
theorem zj {co : Operand} (a : kJ E co = .bool true) (h : CW P n x Q E W) : CW P n (.cond co x y) Q E W := Q2 a (fun _ => h) (fun h => by cases h)
theorem qx {co : Operand} (a : kJ E co = .bool false) (h : CW P n y Q E W) : CW P n (.cond co x y) Q E W := Q2 a (fun h => by cases h) (fun _ => h)
theorem kT {id : Nat} {l : List Oper} (h : LW P n l.toArray Q l E W) : CW P n (.region id l.toArray false) Q E W := fun a ha => wp_region_lit (h a ha)
theorem lo (h : Q .normal E W) : LW P n ops Q [] E W := fun _ ha => wpList_nil ⟨E, ha, h⟩
theorem Mm {P : Program} {c : Code} {Q : Exit → Act → World → Prop} {a : Act} {w : World} (I : Nat → Act → World → Prop) (m : Nat) (v : I m a w) (round : ∀ m a w, I m a w → c.wp P (Exit.then (fun q s => ∃ z, z < m ∧ I z q s) Q) a w) : (Code.loop c).wp P Q a w := by
 intro b k cs
 have key : ∀ m a w, I m a w → ∃ e q s, Q e q s ∧ Arrives P (lone (b.at a (.code c :: .inLoop c :: k)) cs w) b k cs e q s := by
  intro m
  induction m using Nat.strongRecOn with
  | _ m ih =>
   intro a w D
   obtain ⟨e, g, h, j, d⟩ := round m a w D b (.inLoop c :: k) cs
   cases e with
   | normal =>
    obtain ⟨z, A, n⟩ := j
    obtain ⟨u, t, y, o, i⟩ := ih z A g h n
    exact ⟨u, t, y, o, .of_steps (Steps.trans d (.one step_inLoop)) i⟩
   | exit id => exact ⟨_, g, h, j, .pass (x := .inLoop c) rfl (fun _ _ => .inl (by simp)) d⟩
   | goto l => exact ⟨_, g, h, j, .pass (x := .inLoop c) rfl (fun _ _ => .inl (by simp)) d⟩
   | ret => exact ⟨_, g, h, j, .pass (x := .inLoop c) rfl (fun _ _ => .inl (by simp)) d⟩
   | panic E => exact ⟨_, g, h, j, .pass (x := .inLoop c) rfl (fun _ _ => .inl (by simp)) d⟩
   | outgrown => exact ⟨_, g, h, j, .pass (x := .inLoop c) rfl (fun _ _ => .inl (by simp)) d⟩
 obtain ⟨e, q, s, j, d⟩ := key m a w v
 exact ⟨e, q, s, j, .of_steps (.one step_loop) d⟩
theorem ou (I : Nat → (Nat → Value) → World → Prop) (m : Nat) (d : I m E W) (round : ∀ m E W, I m E W → CW P n c (qM (fun E' W' => ∃ g, g < m ∧ I g E' W') Q) E W) : CW P n (.loop c) Q E W := fun a ha =>
 Mm (fun m a w => ∃ E, Ag n a E ∧ I m E w) m ⟨E, ha, d⟩ (fun m a w ⟨E, ha, o⟩ =>
  gb (round m E w o a ha) (fun e q s h => by
   cases e with
   | normal => obtain ⟨E', j, g, k, i⟩ := h; exact ⟨g, k, E', j, i⟩
   | _ => exact h))
def mG (n : Nat) (ops : Array Oper) (E : Nat → Value) (o : Oper) : Prop :=
 o.guard = none ∨ ∃ j want t, o.guard = some (j, want) ∧ (ops[j]?).bind (·.dst) = some t ∧ t < n ∧ E t = .bool want
theorem mG.of {a : Act} (h : mG n ops E o) (ha : Ag n a E) : Region.wanted o (yielded ops a.tmps) = true := by
 rcases h with h | ⟨j, want, t, d, g, i, c⟩
 ·simp [Region.wanted, h]
 ·simp [Region.wanted, d, ha.yield g i c]
theorem Sy {d : Nat} {v : Value} {W' : World} (hw : mG n ops E o) (c : o.dst = some d) (g : d < n) (i : (execOp (kJ E) o).run P W = .ok (.value v) W') (h : LW P n ops Q rest (nE E d v) W') : LW P n ops Q (o :: rest) E W := fun a ha => by
 unfold wpList
 rw [aK (hw.of ha)]
 refine .inl ?_
 unfold Oper.wp
 rw [ha.eval, i, dN, c]
 exact h _ (ha.put g v)
theorem TF {W' : World} (hw : mG n ops E o) (c : o.dst = none) (d : (execOp (kJ E) o).run P W = .ok .skip W') (h : LW P n ops Q rest E W') : LW P n ops Q (o :: rest) E W := fun a ha => by
 unfold wpList
 rw [aK (hw.of ha)]
 refine .inl ?_
 unfold Oper.wp
 rw [ha.eval, d, eJ, c]
 exact h _ (ha.xg _)
theorem Ue {f : FuncId} {args : Array Value} {d : Nat} (hw : mG n ops E o) (g : o.dst = some d) (j : d < n) (k : (execOp (kJ E) o).run P W = .ok (.enter f args) W) (h : Calls P f args W fun e c => ∃ v, e = .returned v ∧ LW P n ops Q rest (nE E d v) c) : LW P n ops Q (o :: rest) E W := fun a ha => by
 unfold wpList
 rw [aK (hw.of ha)]
 refine .inl ?_
 unfold Oper.wp
 rw [ha.eval, k, dO]
 refine h.mono ?_
 rintro e c ⟨v, rfl, i⟩
 simp only [g]
 exact i _ (ha.put j v)
theorem Yl {d j t : Nat} {want : Bool} (g : o.dst = some d) (m : d < n) (i : o.guard = some (j, want)) (k : (ops[j]?).bind (·.dst) = some t) (q : t < n) (c : E t = .bool (!want)) (h : LW P n ops Q rest (nE E d undef) W) : LW P n ops Q (o :: rest) E W := fun a ha => by
 unfold wpList
 have s := ha.yield k q c
 rw [aJ (by simp [Region.wanted, i, s])]
 rw [g]
 exact h _ (ha.put m _)
end
variable {dd : Bool}
abbrev lq := Nat → Option Obj
def hp (W : World) : lq := fun b => W.heap[b]?
def vc (dd : Bool) (a b : Nat) : Prop := dd = true → a ≤ b
theorem vc.of {dd : Bool} {a b : Nat} (h : a ≤ b) : vc dd a b := fun _ => h
theorem vc.trans {dd : Bool} {a b c : Nat} (h : vc dd a b) (k : vc dd b c) : vc dd a c := fun e => dj (h e) (k e)
structure Ex (dd : Bool) (w W : World) : Prop where
 os : W.os = w.os
 tape : W.tape = w.tape
 output : W.output = w.output
 drawn : vc dd w.drawn W.drawn
 size : w.heap.size ≤ W.heap.size
 ng : ∀ b, b < w.heap.size → W.heap[b]? = w.heap[b]?
theorem Ex.refl (w : World) : Ex dd w w := ⟨rfl, rfl, rfl, vc.of (bD _), bD _, fun _ _ => rfl⟩
theorem Ex.trans {a b c : World} (h : Ex dd a b) (k : Ex dd b c) : Ex dd a c :=
 ⟨k.os.trans h.os, k.tape.trans h.tape, k.output.trans h.output, vc.trans h.drawn k.drawn, dj h.size k.size, fun i d => (k.ng i (cO d h.size)).trans (h.ng i d)⟩
theorem Ex.drew (w : World) : Ex dd w w.drew := ⟨rfl, rfl, rfl, vc.of (jz _), bD _, fun _ _ => rfl⟩
theorem Ex.alloc (w : World) (o : Obj) : Ex dd w (w.alloc o) := ⟨rfl, rfl, rfl, vc.of (bD _), by show w.heap.size ≤ (w.heap.push o).size; simp, fun k hk => Below.heap_alloc w o k hk⟩
theorem Ex.mz {w W : World} (h : Ex true w W) : Ex dd w W := ⟨h.os, h.tape, h.output, vc.of (h.drawn rfl), h.size, h.ng⟩
def lb (μ μ' : lq) : Prop := ∀ b o, μ b = some o → μ' b = some o
theorem lb.refl (μ : lq) : lb μ μ := fun _ _ h => h
theorem lb.trans {a b c : lq} (h : lb a b) (k : lb b c) : lb a c := fun x o d => k x o (h x o d)
structure ST (dd : Bool) (F : Nat → Prop) (w W : World) (μ : lq) (L : List (Nat × Obj)) : Prop where
 os : W.os = w.os
 tape : W.tape = w.tape
 output : W.output = w.output
 drawn : vc dd w.drawn W.drawn
 size : w.heap.size ≤ W.heap.size
 ng : ∀ b, b < w.heap.size → ¬ F b → W.heap[b]? = w.heap[b]?
 mem : ∀ b o, μ b = some o → W.heap[b]? = some o
 box : ∀ b o, (b, o) ∈ L → W.heap[b]? = some o ∧ μ b = none ∧ (w.heap.size ≤ b ∨ F b)
 nd : (L.map (·.1)).Nodup
def lu : Nat → Prop := fun _ => False
theorem ST.start (w : World) : ST dd lu w w (hp w) [] :=
 ⟨rfl, rfl, rfl, vc.of (bD _), bD _, fun _ _ _ => rfl, fun _ _ h => h, fun _ _ h => (by cases h), by simp⟩
section
variable {F : Nat → Prop} {w W W' : World} {μ μ' : lq} {L L' : List (Nat × Obj)}
theorem ST.ex (h : ST dd lu w W μ L) : Ex dd w W := ⟨h.os, h.tape, h.output, h.drawn, h.size, fun b a => h.ng b a (fun x => x)⟩
theorem Uq (W : World) (o : Obj) : (W.alloc o).heap[W.heap.size]? = some o := heap_alloc_new W o
theorem oT {W : World} {b : Nat} {o : Obj} (h : W.heap[b]? = some o) : b < W.heap.size := (cK.1 h).1
theorem ST.drew (h : ST dd F w W μ L) : ST dd F w W.drew μ L :=
 ⟨h.os, h.tape, h.output, vc.trans h.drawn (vc.of (jz _)), h.size, h.ng, h.mem, h.box, h.nd⟩
theorem ST.G2 (h : ST dd F w W μ L) {b : Nat} {o : Obj} (a : (b, o) ∈ L) : b < W.heap.size := oT (h.box b o a).1
theorem ST.alloc (h : ST dd F w W μ L) (o : Obj) : ST dd F w (W.alloc o) μ ((W.heap.size, o) :: L) := by
 refine ⟨h.os, h.tape, h.output, h.drawn, dj h.size (Ex.alloc (dd := true) W o).size, fun b a i => ?_, fun b c a => ?_, fun b c a => ?_, ?_⟩
 ·rw [(Ex.alloc (dd := true) W o).ng b (cO a h.size)]; exact h.ng b a i
 ·have := h.mem b c a
  rw [(Ex.alloc (dd := true) W o).ng b (oT this)]; exact this
 ·rcases aQ.1 a with e | a
  ·cases e
   refine ⟨Uq W o, ?_, .inl h.size⟩
   cases hm : μ W.heap.size with
   | none => rfl
   | some x => have := oT (h.mem _ _ hm); omega
  ·obtain ⟨h1, d, g⟩ := h.box b c a
   exact ⟨by rw [(Ex.alloc (dd := true) W o).ng b (oT h1)]; exact h1, d, g⟩
 ·simp only [bE, cL]
  refine ⟨fun hm => ?_, h.nd⟩
  obtain ⟨⟨b, c⟩, a, e⟩ := bI.1 hm
  have := h.G2 a
  simp at e
  omega
theorem ST.put {A B : List (Nat × Obj)} {b : Nat} {o n : Obj} (h : ST dd F w W μ (A ++ (b, o) :: B)) (v : W'.os = W.os ∧ W'.tape = W.tape ∧ W'.output = W.output ∧ W.drawn ≤ W'.drawn ∧ W'.heap.size = W.heap.size) (d : ∀ k, k ≠ b → W'.heap[k]? = W.heap[k]?) (y : W'.heap[b]? = some n) : ST dd F w W' μ (A ++ (b, n) :: B) := by
 obtain ⟨h1, q, s, t, u⟩ := v
 have c := h.box b o (by simp)
 have a := h.nd
 simp only [cq, bE] at a
 have g : ∀ x o, (x, o) ∈ A → x ≠ b := fun x o j e => by
  subst e
  have := (bO.1 a).2.2 x (bI.2 ⟨_, j, rfl⟩) x (by simp)
  exact this rfl
 have i : ∀ x o, (x, o) ∈ B → x ≠ b := fun x o j e => by
  subst e
  have := (cL.1 (bO.1 a).2.1).1
  exact this (bI.2 ⟨_, j, rfl⟩)
 refine ⟨h1.trans h.os, q.trans h.tape, s.trans h.output, vc.trans h.drawn (vc.of t), by rw [u]; exact h.size, fun k hk m => ?_, fun k x hk => ?_, fun k x hk => ?_, by simpa using a⟩
 ·rw [d k (fun e => by subst e; rcases c.2.2 with h | h; omega; exact m h)]
  exact h.ng k hk m
 ·rw [d k (fun e => by subst e; rw [c.2.1] at hk; cases hk)]
  exact h.mem k x hk
 ·rcases aR.1 hk with hk | hk
  ·rw [d k (g k x hk)]; exact h.box k x (by simp [hk])
  ·rcases aQ.1 hk with e | hk
   ·cases e; exact ⟨y, c.2⟩
   ·rw [d k (i k x hk)]; exact h.box k x (by simp [hk])
def Lo (F : Nat → Prop) (w : World) (μ μ' : lq) : Prop := ∀ b, b < w.heap.size → ¬ F b → μ' b = μ b
theorem Lo.refl {F : Nat → Prop} {w : World} {μ : lq} : Lo F w μ μ := fun _ _ _ => rfl
theorem Lo.trans {F : Nat → Prop} {w : World} {a b c : lq} (h : Lo F w a b) (k : Lo F w b c) : Lo F w a c := fun x g d => (k x g d).trans (h x g d)
def grow (μ : lq) (W W' : World) : lq := fun b => if b < W.heap.size then μ b else W'.heap[b]?
theorem ST.FV (h : ST dd F w W μ L) {b : Nat} {o : Obj} (a : μ b = some o) : b < W.heap.size := oT (h.mem b o a)
theorem ST.call (h : ST dd F w W μ L) (c : Ex dd W W') : ST dd F w W' (grow μ W W') L := by
 refine ⟨c.os.trans h.os, c.tape.trans h.tape, c.output.trans h.output, vc.trans h.drawn c.drawn, dj h.size c.size, fun b a j => ?_, fun b o a => ?_, fun b o a => ?_, h.nd⟩
 ·rw [c.ng b (cO a h.size)]; exact h.ng b a j
 ·unfold grow at a
  split at a
  ·rename_i d; rw [c.ng b d]; exact h.mem b o a
  ·exact a
 ·obtain ⟨h1, g, i⟩ := h.box b o a
  exact ⟨by rw [c.ng b (oT h1)]; exact h1, by unfold grow; rw [aK (oT h1)]; exact g, i⟩
theorem ST.Tk (h : ST dd F w W μ L) (W' : World) : lb μ (grow μ W W') := fun b o a => by
 unfold grow; rw [aK (h.FV a)]; exact a
theorem ST.mz (h : ST dd F w W μ' L) (c : lb μ μ') : ST dd F w W μ L :=
 ⟨h.os, h.tape, h.output, h.drawn, h.size, h.ng, fun b o a => h.mem b o (c b o a), fun b o a => by
  obtain ⟨h1, d, g⟩ := h.box b o a
  refine ⟨h1, ?_, g⟩
  cases hm : μ b with
  | none => rfl
  | some x => (have := c b x hm; rw [d] at this; cases this), h.nd⟩
theorem ST.Ia (h : ST dd F w W μ L) (a : Ex dd W W') : ST dd F w W' μ L := (h.call a).mz (h.Tk W')
theorem ST.kN (h : ST dd F w W μ L) : lb μ (hp W) := h.mem
def PW (μ : lq) (b : Nat) (o : Obj) : lq := fun k => if k = b then some o else μ k
theorem ST.KN {A B : List (Nat × Obj)} {b : Nat} {o : Obj} (h : ST dd F w W μ (A ++ (b, o) :: B)) : ST dd F w W (PW μ b o) (A ++ B) := by
 have d := h.box b o (by simp)
 have a := h.nd
 simp only [cq, bE] at a
 have i : ∀ x y, (x, y) ∈ A ++ B → x ≠ b := fun x y c e => by
  subst e
  rcases aR.1 c with c | c
  ·exact (bO.1 a).2.2 x (bI.2 ⟨_, c, rfl⟩) x (by simp) rfl
  ·exact (cL.1 (bO.1 a).2.1).1 (bI.2 ⟨_, c, rfl⟩)
 refine ⟨h.os, h.tape, h.output, h.drawn, h.size, h.ng, fun k x hk => ?_, fun k x hk => ?_, ?_⟩
 ·unfold PW at hk
  split at hk
  ·rename_i e; cases hk; rw [e]; exact d.1
  ·exact h.mem k x hk
 ·have g : (k, x) ∈ A ++ (b, o) :: B := by
   rcases aR.1 hk with h | h <;> simp [h]
  obtain ⟨h1, j, m⟩ := h.box k x g
  exact ⟨h1, by unfold PW; rw [aJ (i k x hk)]; exact j, m⟩
 ·have : (A ++ B).Sublist (A ++ (b, o) :: B) := fW (List.Sublist.refl A) (List.sublist_cons_self _ _)
  exact List.Nodup.sublist (this.map _) h.nd
theorem ST.Ku {A B : List (Nat × Obj)} {b : Nat} {o : Obj} (h : ST dd F w W μ (A ++ (b, o) :: B)) : lb μ (PW μ b o) := fun k x hk => by
 unfold PW
 split
 ·rename_i e; subst e; rw [(h.box k o (by simp)).2.1] at hk; cases hk
 ·exact hk
theorem ST.SL {A B : List (Nat × Obj)} {b : Nat} {o : Obj} (h : ST dd F w W μ (A ++ (b, o) :: B)) : Lo F w μ (PW μ b o) := fun k hk c => by
 refine aJ (fun e => ?_)
 subst e
 rcases (h.box k o (by simp)).2.2 with a | a
 ·omega
 ·exact c a
theorem ST.drop {A B : List (Nat × Obj)} {p : Nat × Obj} (h : ST dd F w W μ (A ++ p :: B)) : ST dd F w W μ (A ++ B) :=
 (h.KN (b := p.1) (o := p.2)).mz h.Ku
end
abbrev rH (α : Type) := lq → List Value → α → Prop
def Sl {α : Type} (R : rH α) (k : Nat) (μ : lq) (v : Value) (l : List α) : Prop :=
 ∃ A c, v = .slice A l.length c ∧ l.length ≤ c ∧ c ≤ maxLen ∧ (0 < l.length → ∃ b off cs T fr, A = some ⟨b, off, none⟩ ∧ μ b = some (.cells cs T fr) ∧
  ∀ i x, l[i]? = some x → ∃ ys, ys.length = k ∧ R μ ys x ∧ ∀ j y, ys[j]? = some y → cs[off + i * k + j]? = some y)
def At (μ : lq) (v : Value) (ys : List Value) : Prop :=
 ∃ b off cs T fr, v = .pointer (some ⟨b, off, none⟩) ∧ μ b = some (.cells cs T fr) ∧ ∀ j y, ys[j]? = some y → cs[off + j]? = some y
def Fr (B : Nat) (v : Value) : Prop := ∀ b, v.ownBlock = some b → B ≤ b
def JE {α : Type} (R : rH α) : Prop := ∀ μ μ' ys x, lb μ μ' → R μ ys x → R μ' ys x
def Pl {α : Type} (enc : α → List Value) : rH α := fun _ ys x => ys = enc x
theorem Pl.mono {α : Type} (enc : α → List Value) : JE (Pl enc) := fun _ _ _ _ _ h => h
theorem Sl.mono {α : Type} {R : rH α} (u : JE R) {k : Nat} {μ μ' : lq} {v : Value} {l : List α} (h : Sl R k μ v l) (d : lb μ μ') : Sl R k μ' v l := by
 obtain ⟨A, c, h1, g, j, m⟩ := h
 refine ⟨A, c, h1, g, j, fun w => ?_⟩
 obtain ⟨b, off, cs, T, fr, n, o, q⟩ := m w
 exact ⟨b, off, cs, T, fr, n, d _ _ o, fun i x y => let ⟨ys, s, t, a⟩ := q i x y; ⟨ys, s, u _ _ _ _ d t, a⟩⟩
theorem At.mono {μ μ' : lq} {v : Value} {ys : List Value} (h : At μ v ys) (d : lb μ μ') : At μ' v ys := by
 obtain ⟨b, off, cs, T, fr, h1, a, c⟩ := h
 exact ⟨b, off, cs, T, fr, h1, d _ _ a, c⟩
theorem Sl.len {α : Type} {R : rH α} {k : Nat} {μ : lq} {v : Value} {l : List α} (h : Sl R k μ v l) : l.length ≤ 9223372036854775807 := by
 obtain ⟨A, c, h1, d, a, g⟩ := h
 unfold maxLen at a
 omega
theorem Sl.nil {α : Type} (R : rH α) (k : Nat) (μ : lq) : Sl R k μ (.slice none 0 0) [] := ⟨none, 0, rfl, bD _, by decide, fun h => absurd h (by simp)⟩
theorem Fr.mono {B B' : Nat} {v : Value} (h : Fr B v) (a : B' ≤ B) : Fr B' v := fun b c => dj a (h b c)
theorem Fr.nil (B : Nat) : Fr B (.slice none 0 0) := fun b a => by simp [Value.ownBlock] at a
end Go.Proofs.YtbnbdigcbldfhaaGreat
namespace Go.Proofs.YtbnbdigcbldfhaaGreat
open Go.RowKit
variable {dd : Bool}
section
variable {P : Program} {n : Nat} {Q : ov} {E : Nat → Value} {W : World} {ops : Array Oper} {rest : List Oper}
 {d : Option Nat} {ty : TypeId} {pos : String} {af : Array Edge} {g : Option (Nat × Bool)}
 {F : Nat → Prop} {w : World} {μ : lq} {L : List (Nat × Obj)}
def mA (P : Program) (E : Nat → Value) (o : Oper) (W : World) (v : Value) (W' : World) : Prop := (execOp (kJ E) o).run P W = .ok (.value v) W'
theorem KD {o : Oper} {dd : Nat} {v : Value} (hw : mG n ops E o) (a : o.dst = some dd) (c : dd < n) (d : mA P E o W v W) (h : LW P n ops Q rest (nE E dd v) W) : LW P n ops Q (o :: rest) E W := Sy hw a c d h
theorem kM {x : Operand} {v : Value} (a : kJ E x = v) : mA P E ⟨d, .move x, ty, pos, af, g⟩ W v W := by rw [← a]; rfl
theorem nH {x : Operand} {v : Value} (a : kJ E x = v) : mA P E ⟨d, .assign x, ty, pos, af, g⟩ W v W := by rw [← a]; rfl
theorem kX {c x y : Operand} {v : Value} (a : kJ E c = .bool true) (h : kJ E x = v) : mA P E ⟨d, .pick c x y, ty, pos, af, g⟩ W v W := by
 show (do pure (.value (if ← asBool (kJ E c) then kJ E x else kJ E y)) : Sem Next).run P W = _
 rw [a, ← h]; simp [asBool]
theorem kW {c x y : Operand} {v : Value} (a : kJ E c = .bool false) (h : kJ E y = v) : mA P E ⟨d, .pick c x y, ty, pos, af, g⟩ W v W := by
 show (do pure (.value (if ← asBool (kJ E c) then kJ E x else kJ E y)) : Sem Next).run P W = _
 rw [a, ← h]; simp [asBool]
theorem Cd {x : Operand} {i : Nat} {vs : Array Value} {v : Value} (c : kJ E x = .tuple vs) (a : vs[i]? = some v) : mA P E ⟨d, .extract x i, ty, pos, af, g⟩ W v W := by
 show (do pure (.value (← Instr.extract (kJ E x) i)) : Sem Next).run P W = _
 rw [c]; simp [Instr.extract, a]
theorem nr {u : TypeId} {x : Operand} {b : Bool} (a : kJ E x = .bool b) : mA P E ⟨d, .unOp .not u x, ty, pos, af, g⟩ W (.bool !b) W := by
 show (do pure (.value (← Op.unary .not (kJ E x))) : Sem Next).run P W = _
 rw [a]; simp [Op.unary]
theorem QC {fn : Fn} {first caps : Array Operand} {v : Value} (a : .func fn (first.map (kJ E)) (caps.map (kJ E)) = v) : mA P E ⟨d, .makeFunc fn first caps, ty, pos, af, g⟩ W v W := by
 show (do pure (.value (← Instr.makeFunc fn (first.map (kJ E)) (caps.map (kJ E)))) : Sem Next).run P W = _
 rw [← a]; simp [Instr.makeFunc]
def MG (k : IntKind) (op : BinOp) (a b : Int) : Option Value :=
 match op with
 | .eql => some (.bool (a == b))
 | .neq => some (.bool (a != b))
 | .lss => some (.bool (decide (a < b)))
 | .leq => some (.bool (decide (a ≤ b)))
 | .gtr => some (.bool (decide (a > b)))
 | .geq => some (.bool (decide (a ≥ b)))
 | .add => some (.int k (k.wrap (a + b)))
 | .sub => some (.int k (k.wrap (a - b)))
 | .mul => some (.int k (k.wrap (a * b)))
 | _ => none
theorem lK {op : BinOp} {tx tv : TypeId} {x y : Operand} {k : IntKind} {a b : Int} {v : Value} (h : kJ E x = .int k a) (i : kJ E y = .int k b) (c : MG k op a b = some v) :
  mA P E ⟨d, .binOp op tx x y tv, ty, pos, af, g⟩ W v W := by
 show (do let r ← (do eqGuard op tx x y (kJ E x) (kJ E y); binOp op tx (kJ E x) (kJ E y)); pure (.value r) : Sem Next).run P W = _
 rw [h, i]
 cases op <;> simp [MG] at c <;> subst c <;> simp [eqGuard, binOp, Op.intCmp, Op.intArith]
def U6 (op : BinOp) (a b : ByteArray) : Option Value :=
 match op with
 | .eql => some (.bool (a.toList == b.toList))
 | .neq => some (.bool !(a.toList == b.toList))
 | .lss => some (.bool (Op.bytesLess a.toList b.toList))
 | .leq => some (.bool (Op.bytesLess a.toList b.toList || a.toList == b.toList))
 | .gtr => some (.bool !(Op.bytesLess a.toList b.toList || a.toList == b.toList))
 | .geq => some (.bool !(Op.bytesLess a.toList b.toList))
 | _ => none
def BG (a b : ByteArray) : Option ByteArray := if ((a.size + b.size : Nat) : Int) > IntKind.i64.max then none else some (a ++ b)
theorem se {op : BinOp} {tx tv : TypeId} {x y : Operand} {a b : ByteArray} {v : Value} (h : kJ E x = .string a) (i : kJ E y = .string b) (c : U6 op a b = some v) :
  mA P E ⟨d, .binOp op tx x y tv, ty, pos, af, g⟩ W v W := by
 show (do let r ← (do eqGuard op tx x y (kJ E x) (kJ E y); binOp op tx (kJ E x) (kJ E y)); pure (.value r) : Sem Next).run P W = _
 rw [h, i]
 cases op <;> simp [U6] at c <;> subst c <;> simp [eqGuard, binOp, Op.stringOp]
theorem CG {tx tv : TypeId} {x y : Operand} {a b r : ByteArray} (h : kJ E x = .string a) (i : kJ E y = .string b) (c : BG a b = some r) :
  mA P E ⟨d, .binOp .add tx x y tv, ty, pos, af, g⟩ W (.string r) W := by
 show (do let r ← (do eqGuard .add tx x y (kJ E x) (kJ E y); binOp .add tx (kJ E x) (kJ E y)); pure (.value r) : Sem Next).run P W = _
 rw [h, i]
 simp only [BG] at c
 split at c
 ·cases c
 ·rename_i hle; cases c; simp [eqGuard, binOp, Op.stringOp]; simpa using hle
theorem vt {tx tv : TypeId} {x y : Operand} {a b : Array Value} {r : Bool} (i : kJ E x = .agg a) (j : kJ E y = .agg b) (c : ∀ W, (eqGuard .eql tx x y (.agg a) (.agg b)).run P W = .ok () W) (h : ∀ W, (binOp .eql tx (.agg a) (.agg b)).run P W = .ok (.bool r) W) : mA P E ⟨d, .binOp .eql tx x y tv, ty, pos, af, g⟩ W (.bool r) W := by
 show (do let r ← (do eqGuard .eql tx x y (kJ E x) (kJ E y); binOp .eql tx (kJ E x) (kJ E y)); pure (.value r) : Sem Next).run P W = _
 rw [i, j]; simp [c W, h W]
theorem Gp {tx tv : TypeId} {x y : Operand} {a b : Array Value} {r : Bool} (i : kJ E x = .agg a) (j : kJ E y = .agg b) (c : ∀ W, (eqGuard .neq tx x y (.agg a) (.agg b)).run P W = .ok () W) (h : ∀ W, (binOp .neq tx (.agg a) (.agg b)).run P W = .ok (.bool r) W) : mA P E ⟨d, .binOp .neq tx x y tv, ty, pos, af, g⟩ W (.bool r) W := by
 show (do let r ← (do eqGuard .neq tx x y (kJ E x) (kJ E y); binOp .neq tx (kJ E x) (kJ E y)); pure (.value r) : Sem Next).run P W = _
 rw [i, j]; simp [c W, h W]
theorem Ej {t e : TypeId} (dd : Nat) (c : P.underlying t = some (.pointer e)) (a : Option Addr) (W : World) : (Op.equalIn (dd + 1) t (.pointer a) (.pointer none)).run P W = .ok a.isNone W := by
 cases a <;> simp [Op.equalIn, aT c]
theorem uc {tx tv e : TypeId} {x y : Operand} {a : Option Addr} (h : P.underlying tx = some (.pointer e)) (i : kJ E x = .pointer a) (j : kJ E y = .pointer none) :
  mA P E ⟨d, .binOp .eql tx x y tv, ty, pos, af, g⟩ W (.bool a.isNone) W := by
 show (do let r ← (do eqGuard .eql tx x y (kJ E x) (kJ E y); binOp .eql tx (kJ E x) (kJ E y)); pure (.value r) : Sem Next).run P W = _
 rw [i, j]
 have c := Ej 9999 h a W
 simp [eqGuard, binOp, Op.equal, show Op.maxDepth = 9999 + 1 from rfl, c]
theorem CU {tx tv e : TypeId} {x y : Operand} {a : Option Addr} (h : P.underlying tx = some (.pointer e)) (i : kJ E x = .pointer a) (j : kJ E y = .pointer none) :
  mA P E ⟨d, .binOp .neq tx x y tv, ty, pos, af, g⟩ W (.bool !a.isNone) W := by
 show (do let r ← (do eqGuard .neq tx x y (kJ E x) (kJ E y); binOp .neq tx (kJ E x) (kJ E y)); pure (.value r) : Sem Next).run P W = _
 rw [i, j]
 have c := Ej 9999 h a W
 simp [eqGuard, binOp, Op.equal, show Op.maxDepth = 9999 + 1 from rfl, c]
theorem nF {x : Operand} {t : TypeId} {s : ByteArray} (a : P.underlying t = some .string) (c : kJ E x = .string s) : mA P E ⟨d, .call ⟨.builtin .len, #[x], #[t]⟩, ty, pos, af, g⟩ W (.int .i64 s.size) W := by
 show (do let d ← resolve (kJ E) ⟨.builtin .len, #[x], #[t]⟩ ty; invoke d.target d.args : Sem Next).run P W = _
 simp [resolve, invoke, builtin, Builtin.len_, aT a, c, goInt]
theorem BR {x : Operand} {t e : TypeId} {A : Option Addr} {l c : Nat} (a : P.underlying t = some (.slice e)) (h : kJ E x = .slice A l c) : mA P E ⟨d, .call ⟨.builtin .len, #[x], #[t]⟩, ty, pos, af, g⟩ W (.int .i64 l) W := by
 show (do let d ← resolve (kJ E) ⟨.builtin .len, #[x], #[t]⟩ ty; invoke d.target d.args : Sem Next).run P W = _
 simp [resolve, invoke, builtin, Builtin.len_, aT a, h, goInt]
theorem lJ {α : Type} {R : rH α} {k : Nat} {m : lq} {x : Operand} {t e : TypeId} {v : Value} {l : List α} (h : P.underlying t = some (.slice e)) (i : kJ E x = v) (a : Sl R k m v l) : mA P E ⟨d, .call ⟨.builtin .len, #[x], #[t]⟩, ty, pos, af, g⟩ W (.int .i64 l.length) W := by
 obtain ⟨A, c, rfl, _⟩ := a
 exact BR h i
theorem CX {t : TypeId} {x a : Operand} {o : IntKind} {s : ByteArray} {i : Int} {c : UInt8} (m : P.underlying t = some .string) (n : kJ E x = .string s) (j : kJ E a = .int o i) (h : 0 ≤ i) (k : s[i.toNat]? = some c) :
  mA P E ⟨d, .index t x a, ty, pos, af, g⟩ W (.int .u8 c.toNat) W := by
 show (do pure (.value (← Instr.index t (kJ E x) (kJ E a))) : Sem Next).run P W = _
 rw [n, j]
 simp [Instr.index, asIntOf, aT m, h, k]
def mj (P : Program) (t : TypeId) (f off : Nat) : Prop := ∀ b o w, (Instr.fieldAt t (.pointer (some ⟨b, o, none⟩)) f).run P w = .ok (.pointer (some ⟨b, o + off, none⟩)) w
theorem kH {t : TypeId} {x : Operand} {f off b o : Nat} (a : mj P t f off) (c : kJ E x = .pointer (some ⟨b, o, none⟩)) : mA P E ⟨d, .fieldAddr t x f, ty, pos, af, g⟩ W (.pointer (some ⟨b, o + off, none⟩)) W := by
 show (do pure (.value (← Instr.fieldAt t (kJ E x) f)) : Sem Next).run P W = _
 rw [c]; simp [a b o W]
theorem zf {t : TypeId} {x : Operand} {f off : Nat} {v : Value} {ys : List Value} (a : List Value) (k : mj P t f off) (q : kJ E x = v) (n : At μ v ys) (s : (ys.drop off).take a.length = a) :
  ∃ h, At μ h a ∧ ∀ W, mA P E ⟨d, .fieldAddr t x f, ty, pos, af, g⟩ W h W := by
 obtain ⟨b, o, cs, T, fr, rfl, h1, i⟩ := n
 refine ⟨_, ⟨b, o + off, cs, T, fr, rfl, h1, fun j y c => ?_⟩, fun W => kH k q⟩
 have m : j < a.length := (bB.1 c).1
 have := i (off + j) y (by
  rw [← s, dD m, dz] at c
  exact c)
 rw [eZ]
 exact this
theorem nz {x : Operand} {a : Addr} (c : kJ E x = .pointer (some a)) : mA P E ⟨d, .nilCheck x, ty, pos, af, g⟩ W (.pointer (some a)) W := by
 unfold mA execOp
 simp [c]
theorem KO {α : Type} {R : rH α} {k : Nat} {t e : TypeId} {x h : Operand} {U : IntKind} {v : Value} {i : Int} {l : List α} {x0 : α} (L : P.underlying t = some (.slice e)) (he : ∀ w, (sizeOf e).run P w = .ok k w) (M : kJ E x = v) (G : kJ E h = .int U i) (J : Sl R k μ v l) (n : 0 ≤ i) (m : l[i.toNat]? = some x0) :
  ∃ p ys, ys.length = k ∧ R μ ys x0 ∧ At μ p ys ∧ ∀ W, mA P E ⟨d, .indexAddr t x h, ty, pos, af, g⟩ W p W := by
 obtain ⟨A, c, rfl, Y, Z, o⟩ := J
 have I : i.toNat < l.length := (bB.1 m).1
 obtain ⟨b, off, cs, T, fr, rfl, q, s⟩ := o (by omega)
 obtain ⟨ys, u, z, a⟩ := s i.toNat x0 m
 refine ⟨.pointer (some ⟨b, off + i.toNat * k, none⟩), ys, u, z, ⟨b, off + i.toNat * k, cs, T, fr, rfl, q, fun j y Q => a j y Q⟩, fun W => ?_⟩
 show (do pure (.value (← Instr.indexAt t (kJ E x) (kJ E h))) : Sem Next).run P W = _
 rw [M, G]
 have D : 0 ≤ i ∧ i < (l.length : Int) := ⟨n, by omega⟩
 simp [Instr.indexAt, asIntOf, aT L, he W, D, dq]
theorem lY {α : Type} {enc : α → List Value} {k : Nat} {t e : TypeId} {x a : Operand} {y : IntKind} {v : Value} {i : Int} {l : List α} {x0 : α} (s : P.underlying t = some (.slice e)) (he : ∀ w, (sizeOf e).run P w = .ok k w) (u : kJ E x = v) (n : kJ E a = .int y i) (q : Sl (Pl enc) k μ v l) (c : 0 ≤ i) (o : l[i.toNat]? = some x0) :
  ∃ p, At μ p (enc x0) ∧ ∀ W, mA P E ⟨d, .indexAddr t x a, ty, pos, af, g⟩ W p W := by
 obtain ⟨p, ys, h1, h, j, m⟩ := KO (d := d) (ty := ty) (pos := pos) (af := af) (g := g) s he u n q c o
 cases h
 exact ⟨p, j, m⟩
theorem Me (P : Program) {W : World} {b off : Nat} {cs : Array Value} {T : TypeId} {fr : Nat × Nat} (a : W.heap[b]? = some (.cells cs T fr)) (ys : List Value) (d : ∀ j y, ys[j]? = some y → cs[off + j]? = some y) :
  (loadCells ⟨b, off, none⟩ ys.length).run P W = .ok ys.toArray W :=
 jc W ⟨b, off, none⟩ ys (fun j v c => by rw [dq, fJ W b (off + j) cs T fr a]; exact d j v c)
theorem E6 {W : World} {t : TypeId} {b off : Nat} {cs : Array Value} {T : TypeId} {fr : Nat × Nat} (a : ∀ w, (isAgg t).run P w = .ok true w) (ys : List Value) (c : ∀ w, (sizeOf t).run P w = .ok ys.length w) (d : W.heap[b]? = some (.cells cs T fr)) (g : ∀ j y, ys[j]? = some y → cs[off + j]? = some y) : (Instr.loadAt t (.pointer (some ⟨b, off, none⟩))).run P W = .ok (.agg ys.toArray) W := by
 simp [Instr.loadAt, Instr.sureAddr, loadVar, a W, c W, Me P d ys g]
theorem ES {W : World} {t : TypeId} {b off : Nat} {cs : Array Value} {T : TypeId} {fr : Nat × Nat} (a : ∀ w, (isAgg t).run P w = .ok false w) {y : Value} (c : W.heap[b]? = some (.cells cs T fr)) (g : cs[off]? = some y) : (Instr.loadAt t (.pointer (some ⟨b, off, none⟩))).run P W = .ok y W := by
 have d : W.cell? ⟨b, off, none⟩ = some y := by rw [fJ W b off cs T fr c]; exact g
 simp [Instr.loadAt, Instr.sureAddr, loadVar, a W, load, Sem.run, d]
theorem kE {t : TypeId} {x : Operand} {a v : Value} (h : kJ E x = a) (c : (Instr.loadAt t a).run P W = .ok v W) : mA P E ⟨d, .load t x, ty, pos, af, g⟩ W v W := by
 show (do pure (.value (← Instr.loadAt t (kJ E x))) : Sem Next).run P W = _
 rw [h]; simp [c]
def rY (μ : lq) (A : List (Nat × Obj)) (W : World) : Prop := (∀ b o, μ b = some o → W.heap[b]? = some o) ∧ ∀ b o, (b, o) ∈ A → W.heap[b]? = some o
theorem ST.has (h : ST dd F w W μ L) : rY μ L W := ⟨h.mem, fun b o a => (h.box b o a).1⟩
theorem rY.sub {μ' : lq} {A A' : List (Nat × Obj)} (h : rY μ A W) (d : lb μ' μ) (c : ∀ p, p ∈ A' → p ∈ A) : rY μ' A' W := ⟨fun b o a => h.1 b o (d b o a), fun b o a => h.2 b o (c _ a)⟩
theorem lO {A : List (Nat × Obj)} (hH : rY μ A W) {t : TypeId} {p : Value} {ys : List Value} (hp : At μ p ys) (c : ∀ w, (isAgg t).run P w = .ok true w) (d : ∀ w, (sizeOf t).run P w = .ok ys.length w) :
  (Instr.loadAt t p).run P W = .ok (.agg ys.toArray) W := by
 obtain ⟨b, off, cs, T, fr, rfl, h1, a⟩ := hp
 exact E6 c ys d (hH.1 _ _ h1) a
theorem nh {A : List (Nat × Obj)} (hH : rY μ A W) {t : TypeId} {p y : Value} (hp : At μ p [y]) (c : ∀ w, (isAgg t).run P w = .ok false w) :
  (Instr.loadAt t p).run P W = .ok y W := by
 obtain ⟨b, off, cs, T, fr, rfl, h1, a⟩ := hp
 exact ES c (hH.1 _ _ h1) (a 0 y rfl)
theorem kL {A : List (Nat × Obj)} (hH : rY μ A W) {t : TypeId} {b off : Nat} {cs : Array Value} {T : TypeId} {fr : Nat × Nat} (g : (b, Obj.cells cs T fr) ∈ A) (ys : List Value) (i : (cs.toList.drop off).take ys.length = ys) (d : ∀ w, (isAgg t).run P w = .ok true w) (h : ∀ w, (sizeOf t).run P w = .ok ys.length w) : (Instr.loadAt t (.pointer (some ⟨b, off, none⟩))).run P W = .ok (.agg ys.toArray) W :=
 E6 d ys h (hH.2 _ _ g) (fun j y a => by
  have c : j < ys.length := (bB.1 a).1
  rw [← i, dD c, dz] at a
  simpa using a)
theorem kR {A : List (Nat × Obj)} (hH : rY μ A W) {t : TypeId} {b off : Nat} {cs : Array Value} {T : TypeId} {fr : Nat × Nat} (c : (b, Obj.cells cs T fr) ∈ A) {y : Value} (d : cs[off]? = some y) (a : ∀ w, (isAgg t).run P w = .ok false w) : (Instr.loadAt t (.pointer (some ⟨b, off, none⟩))).run P W = .ok y W :=
 ES a (hH.2 _ _ c) d
theorem nm {t : TypeId} {a : Array (Nat × Operand)} {c : Array (Nat × Value)} {v : Value} (h : a.map (fun (i, x) => (i, kJ E x)) = c) (j : ∀ W, (Instr.build t c).run P W = .ok v W) : mA P E ⟨d, .build t a, ty, pos, af, g⟩ W v W := by
 show (do pure (.value (← Instr.build t (a.map fun (i, x) => (i, kJ E x)))) : Sem Next).run P W = _
 rw [h]; simp [j W]
theorem mE {t : TypeId} {z cs : Array Value} {a : Array Field} {c : Array (Nat × Value)} {pl : Array (Nat × Nat)} (h : ∀ w, (zeroValue t).run P w = .ok (.agg z) w) (g : P.underlying t = some (.struct a)) (hp : ∀ w, (a.mapM fun f => do pure (f.offset, ← sizeOf f.type) : Sem (Array (Nat × Nat))).run P w = .ok pl w) (d : Instr.fill (pl[·]?) z c.toList = some cs) (W : World) : (Instr.build t c).run P W = .ok (.agg cs) W := by
 simp only [Instr.build, cd, h W, bN, aT g, Value.cells]
 rw [hp W]
 simp only [bN, d, db]
end
theorem HU {α : Type} : ∀ (a : Ask α) (w : World), w.drawn ≤ (w.ask a).2.drawn
 | .done a, w => by simp [World.ask]
 | .ask c range k, w => by
  unfold World.ask
  dsimp only
  split
  ·exact HU (k 0) w
  ·refine dj (jz w.drawn) ?_
   exact HU _ { w with drawn := w.drawn + 1 }
theorem Sg (w : World) (c : Sys) : w.drawn ≤ (w.sys c).2.drawn := by
 have h := HU (Kernel.perform c w.os) w
 unfold World.sys
 generalize w.ask (Kernel.perform c w.os) = r at *
 obtain ⟨⟨a, d⟩, g⟩ := r
 cases a <;> simp at h ⊢ <;> exact h
theorem JM {p : Program} {w c : World} {a : Addr} {u : TypeId} {k : Addr} {v : Value} {b : Bool} {l : List Addr} (h : w.viewStore p a u k v b = .ok (c, l)) : c.drawn = w.drawn := by
 unfold World.viewStore at h
 simp only [bind, Except.bind, pure, Except.pure] at h
 split at h
 ·cases h
 ·split at h
  ·cases h
  ·split at h
   ·split at h
    ·cases h
    ·split at h
     ·cases h
     ·cases h; rfl
   ·cases h
theorem KV {p : Program} {w c : World} {a : Addr} {v : Value} {b : Bool} {l : List Addr} (h : w.farStore p a v b = .ok (c, l)) : c.drawn = w.drawn := by
 unfold World.farStore at h
 split at h
 ·split at h
  ·rename_i h1; cases h; exact JM h1
  ·cases h
 ·cases h
theorem pp {α : Type} {p : Program} : ∀ (s : Sem α) (w d : World) (a : α), s.run p w = .ok a d → w.drawn ≤ d.drawn
 | .pure a, w, d, b, h => by simp only [Sem.run] at h; cases h; exact bD _
 | .load m a k, w, d, b, h => by
  simp only [Sem.run] at h
  split at h
  ·exact pp _ _ _ _ h
  ·split at h
   ·exact pp _ _ _ _ h
   ·cases h
 | .store m a v k, w, d, b, h => by
  have key : ∀ (r : Result α) i, r = .ok b d → (r = (match w.cell? a with
    | some _ => if w.frozen? a then .halt i w else k.run p (w.setCell a v)
    | none => match w.farStore p a v (m == .atomic) with
     | .ok (w, _) => k.run p w
     | .error h => .halt h w)) → w.drawn ≤ d.drawn := by
   intro r i j h
   rw [j] at h
   split at h
   ·split at h
    ·cases h
    ·have := pp k _ _ _ h.symm
     simpa [World.setCell] using this
   ·split at h
    ·rename_i h1
     have g := pp k _ _ _ h.symm
     rw [KV h1] at g
     exact g
    ·cases h
  cases v with
  | agg cs => simp only [Sem.run] at h; cases h
  | tuple cs => simp only [Sem.run] at h; cases h
  | _ => exact key _ _ h (by simp only [Sem.run]; rfl)
 | .new o k, w, d, b, h => by simp only [Sem.run] at h; have := pp (k _) _ _ _ h; exact this
 | .shape r k, w, d, b, h => by simp only [Sem.run] at h; exact pp _ _ _ _ h
 | .freeze a n k, w, d, b, h => by
  simp only [Sem.run] at h
  have := pp k _ _ _ h
  unfold World.freeze at this
  split at this <;> exact this
 | .frozen a k, w, d, b, h => by simp only [Sem.run] at h; exact pp _ _ _ _ h
 | .getObj r k, w, d, b, h => by
  simp only [Sem.run] at h
  split at h <;> try (cases h; done)
  exact pp _ _ _ _ h
 | .setObj r o k, w, d, b, h => by
  simp only [Sem.run] at h
  split at h <;> try (cases h; done)
  have := pp k _ _ _ h
  exact this
 | .choose q k, w, d, b, h => by
  simp only [Sem.run] at h
  split at h
  ·exact pp _ _ _ _ h
  ·exact dj (jz _) (pp _ _ _ _ h)
 | .sys c k, w, d, b, h => by
  simp only [Sem.run] at h
  exact dj (Sg w c) (pp _ _ _ _ h)
 | .program k, w, d, b, h => by simp only [Sem.run] at h; exact pp _ _ _ _ h
 | .mark m k, w, d, b, h => by simp only [Sem.run] at h; exact pp k _ _ _ h
 | .halt x, w, d, b, h => by simp only [Sem.run] at h; cases h
end Go.Proofs.YtbnbdigcbldfhaaGreat
namespace Go.Proofs.YtbnbdigcbldfhaaGreat
open Go.RowKit
variable {dd : Bool}
section
variable {P : Program} {n : Nat} {Q : ov} {E : Nat → Value} {W : World} {ops : Array Oper} {rest : List Oper}
 {d : Option Nat} {ty : TypeId} {pos : String} {af : Array Edge} {g : Option (Nat × Bool)}
 {F : Nat → Prop} {w : World} {μ : lq} {L : List (Nat × Obj)}
def nN (P : Program) (E : Nat → Value) (o : Oper) (W : World) (K : Value → World → Prop) : Prop :=
 (∃ v W', (execOp (kJ E) o).run P W = .ok (.value v) W' ∧ K v W') ∨ (∃ W', (execOp (kJ E) o).run P W = .ok .skip W' ∧ K undef W') ∨
 (∃ f args, (execOp (kJ E) o).run P W = .ok (.enter f args) W ∧ Calls P f args W fun e a => ∃ v, e = .returned v ∧ K v a)
theorem nN.mono {o : Oper} {K K' : Value → World → Prop} (h : nN P E o W K) (hk : ∀ v W', K v W' → K' v W') : nN P E o W K' := by
 rcases h with ⟨v, W', h1, a⟩ | ⟨W', h1, a⟩ | ⟨f, args, h1, a⟩
 ·exact .inl ⟨v, W', h1, hk _ _ a⟩
 ·exact .inr (.inl ⟨W', h1, hk _ _ a⟩)
 ·exact .inr (.inr ⟨f, args, h1, cD a (fun _ _ ⟨v, c, d⟩ => ⟨v, c, hk _ _ d⟩)⟩)
theorem WM {o : Oper} {dd : Nat} (hw : mG n ops E o) (d : o.dst = some dd) (g : dd < n) (h : nN P E o W fun v W' => LW P n ops Q rest (nE E dd v) W') : LW P n ops Q (o :: rest) E W := by
 rcases h with ⟨v, W', h1, c⟩ | ⟨W', h1, c⟩ | ⟨f, args, h1, c⟩
 ·exact Sy hw d g h1 c
 ·intro a ha
  unfold wpList
  rw [aK (hw.of ha)]
  refine .inl ?_
  unfold Oper.wp
  rw [ha.eval, h1, eJ, d]
  exact c _ (ha.put g _)
 ·exact Ue hw d g h1 c
theorem YD {o : Oper} (hw : mG n ops E o) (d : o.dst = none) (h : nN P E o W fun _ W' => LW P n ops Q rest E W') : LW P n ops Q (o :: rest) E W := by
 rcases h with ⟨v, W', h1, c⟩ | ⟨W', h1, c⟩ | ⟨f, args, h1, c⟩
 ·intro a ha
  unfold wpList
  rw [aK (hw.of ha)]
  refine .inl ?_
  unfold Oper.wp
  rw [ha.eval, h1, dN, d]
  exact c _ (ha.xg _)
 ·exact TF hw d h1 c
 ·intro a ha
  unfold wpList
  rw [aK (hw.of ha)]
  refine .inl ?_
  unfold Oper.wp
  rw [ha.eval, h1, dO]
  refine cD c ?_
  rintro e i ⟨v, rfl, g⟩
  simp only [d]
  exact g _ (ha.xg _)
theorem lF {K : Value → World → Prop} {t : TypeId} {x : Operand} {v : Value} (a : ST dd F w W μ L) (c : kJ E x = v) (h : ∀ W' b, ST dd F w W' μ ((b, .cells v.cells t (0, 0)) :: L) → K (.pointer (some ⟨b, 0, none⟩)) W') : nN P E ⟨d, .box t x, ty, pos, af, g⟩ W K :=
 .inl ⟨.pointer (some ⟨W.heap.size, 0, none⟩), W.alloc (.cells v.cells t (0, 0)), by
   show (do pure (.value (← Instr.box t (kJ E x))) : Sem Next).run P W = _
   rw [c]
   simp [Instr.box, newVar, newRow, newObj, Sem.run], h _ _ (a.alloc _)⟩
theorem lD {K : Value → World → Prop} {t : TypeId} {z : Value} (a : ST dd F w W μ L) (c : ∀ w, (zeroValue t).run P w = .ok z w) (h : ∀ W' b, ST dd F w W' μ ((b, .cells z.cells t (0, 0)) :: L) → K (.pointer (some ⟨b, 0, none⟩)) W') : nN P E ⟨d, .alloc t, ty, pos, af, g⟩ W K :=
 .inl ⟨.pointer (some ⟨W.heap.size, 0, none⟩), W.alloc (.cells z.cells t (0, 0)), by
   show (do pure (.value (← Instr.alloc t true (.tuple #[]))) : Sem Next).run P W = _
   simp [Instr.alloc, c W, newVar, newRow, newObj, Sem.run], h _ _ (a.alloc _)⟩
theorem Kn {t e : TypeId} {m k : Nat} {z : Value} {d : Array (Nat × Value)} {cs : Array Value} (h : P.underlying t = some (.slice e)) (g : ∀ w, (sizeOf e).run P w = .ok k w) (j : ∀ w, (zeroValue e).run P w = .ok z w) (hm : m * k ≤ 16777216) (a : Instr.fill (fun i => some (i * k, k)) ((Array.range (m * k)).map (fun i => (if m * k = 0 then (#[] : Array Value) else z.cells)[i % (if m * k = 0 then (#[] : Array Value) else z.cells).size]!)) d.toList = some cs) (W : World) :
  (Instr.buildSlice t m d).run P W = .ok (.slice (some ⟨W.heap.size, 0, none⟩) m m) (W.alloc (.cells cs e (0, 0))) := by
 simp only [Instr.buildSlice, cd, aT h, bN, g W]
 rw [aJ (by omega)]
 by_cases c : m * k = 0
 ·simp only [c, bA] at a ⊢
  simp only [cd, db, bN, a]
  simp [newRow, newObj, Sem.run]
 ·simp only [c, aS] at a ⊢
  simp only [cd, j W, db, bN, a]
  simp [newRow, newObj, Sem.run]
theorem lj {K : Value → World → Prop} {t e : TypeId} {m : Nat} {c : Array (Nat × Operand)} {j : Array (Nat × Value)} {cs : Array Value} (a : ST dd F w W μ L) (k : c.map (fun (i, x) => (i, kJ E x)) = j) (n : ∀ W, (Instr.buildSlice t m j).run P W = .ok (.slice (some ⟨W.heap.size, 0, none⟩) m m) (W.alloc (.cells cs e (0, 0)))) (h : ∀ W' b, ST dd F w W' μ ((b, .cells cs e (0, 0)) :: L) → K (.slice (some ⟨b, 0, none⟩) m m) W') : nN P E ⟨d, .buildSlice t m c, ty, pos, af, g⟩ W K :=
 .inl ⟨.slice (some ⟨W.heap.size, 0, none⟩) m m, W.alloc (.cells cs e (0, 0)), by
   show (do pure (.value (← Instr.buildSlice t m (c.map fun (i, x) => (i, kJ E x)))) : Sem Next).run P W = _
   rw [k]
   simp [n W], h _ _ (a.alloc _)⟩
theorem ST.store {A B : List (Nat × Obj)} {b : Nat} {cs : Array Value} {t : TypeId} (a : ST dd F w W μ (A ++ (b, .cells cs t (0, 0)) :: B)) (cs' : Array Value) :
  ST dd F w (W.setRow b cs') μ (A ++ (b, .cells cs' t (0, 0)) :: B) := by
 have c := (a.box b _ (by simp : (b, Obj.cells cs t (0, 0)) ∈ A ++ (b, .cells cs t (0, 0)) :: B)).1
 refine a.put ⟨rfl, rfl, rfl, bD _, by simp [World.setRow]⟩ (fun k hk => ?_) (setRow_heap W b cs cs' t (0, 0) c)
 simp only [World.setRow, dL]
 rw [aJ (fun e => hk e.symm)]
theorem Fc (P : Program) {W : World} {t : TypeId} {b off : Nat} {cs : Array Value} {T : TypeId} (v : Value) (a : ∀ w, (sizeOf t).run P w = .ok v.cells.size w) (h1 : ∀ u ∈ v.cells.toList, u.oneCell' = true) (c : W.heap[b]? = some (.cells cs T (0, 0))) (d : off + v.cells.size ≤ cs.size) : (Instr.storeAt t (.pointer (some ⟨b, off, none⟩)) v).run P W = .ok () (W.setRow b (cs.toList.take off ++ v.cells.toList ++ cs.toList.drop (off + v.cells.size)).toArray) := by
 have := jA (P := P) b off T v.cells.toList 0 cs W c (by simpa using d) h1
 simp [Instr.storeAt, Instr.sureAddr, storeVar, a W]
 simpa using this
theorem Di {K : Value → World → Prop} (A : List (Nat × Obj)) {B : List (Nat × Obj)} {t : TypeId} {x y : Operand} (v : Value) {b off : Nat} {cs : Array Value} {T : TypeId} (cs' : Array Value) (a : ST dd F w W μ (A ++ (b, .cells cs T (0, 0)) :: B)) (m : kJ E x = .pointer (some ⟨b, off, none⟩)) (n : kJ E y = v) (c : ∀ w, (sizeOf t).run P w = .ok v.cells.size w) (h1 : ∀ u ∈ v.cells.toList, u.oneCell' = true) (k : off + v.cells.size ≤ cs.size) (j : (cs.toList.take off ++ v.cells.toList ++ cs.toList.drop (off + v.cells.size)).toArray = cs') (h : ∀ W', ST dd F w W' μ (A ++ (b, .cells cs' T (0, 0)) :: B) → K undef W') : nN P E ⟨d, .store t x y, ty, pos, af, g⟩ W K :=
 .inr (.inl ⟨W.setRow b cs', by
   show (do Instr.storeAt t (kJ E x) (kJ E y); pure .skip : Sem Next).run P W = _
   have i := (a.box b _ (by simp : (b, Obj.cells cs T (0, 0)) ∈ A ++ (b, .cells cs T (0, 0)) :: B)).1
   rw [m, n]
   simp only [cd, Fc P v c h1 i k, j, bN, db], h _ (a.store cs')⟩)
def lg (dd : Bool) (P : Program) (f : FuncId) (args : List Value) (w : World) (v : Value) : Prop := Calls P f args.toArray w fun e a => e = .returned v ∧ Ex dd w a
theorem LA {f : FuncId} {fv : Operand} {ax : Array Operand} {ats : Array TypeId} {caps args : Array Value} (a : kJ E fv = .func (.func f) #[] caps) (he : ∀ args w, (callFunc f args).run P w = .ok (.enter f args) w) (ha : ax.map (kJ E) ++ caps = args) :
  (execOp (kJ E) ⟨d, .call ⟨.value fv, ax, ats⟩, ty, pos, af, g⟩).run P W = .ok (.enter f args) W := by
 show (do let d ← resolve (kJ E) ⟨.value fv, ax, ats⟩ ty; invoke d.target d.args : Sem Next).run P W = _
 rw [← ha]
 simp only [resolve, a, Deferred.ofValue, cd, db, bN, invoke]
 simp [he]
theorem H7 {K : Value → World → Prop} {f : FuncId} {fv : Operand} {ax : Array Operand} {ats : Array TypeId} {caps args : Array Value} (a : kJ E fv = .func (.func f) #[] caps) (he : ∀ args w, (callFunc f args).run P w = .ok (.enter f args) w) (ha : ax.map (kJ E) ++ caps = args) (h : Calls P f args W fun e c => ∃ v, e = .returned v ∧ K v c) : nN P E ⟨d, .call ⟨.value fv, ax, ats⟩, ty, pos, af, g⟩ W K :=
 .inr (.inr ⟨f, args, LA a he ha, h⟩)
theorem PR {K : Value → World → Prop} {f : FuncId} {fv : Operand} {ax : Array Operand} {ats : Array TypeId} {args : List Value} {v : Value} (a : ST dd F w W μ L) (j : kJ E fv = .func (.func f) #[] #[]) (he : ∀ args w, (callFunc f args).run P w = .ok (.enter f args) w) (ha : (ax.map (kJ E) ++ (#[] : Array Value)) = args.toArray) (i : lg dd P f args W v) (h : ∀ W', ST dd F w W' μ L → K v W') : nN P E ⟨d, .call ⟨.value fv, ax, ats⟩, ty, pos, af, g⟩ W K :=
 H7 j he ha (cD i (fun _ _ ⟨h1, c⟩ => ⟨v, h1, h _ (a.Ia c)⟩))
def kZ {α : Type} (e : TypeId) (enc : α → List Value) (k : Nat) (v : Value) (l : List α) (R : List (Nat × Obj)) : Prop :=
 (v = .slice none 0 0 ∧ l = [] ∧ R = []) ∨
 ∃ g cap a, v = .slice (some ⟨g, 0, none⟩) l.length cap ∧ R = [(g, .cells a e (0, 0))] ∧ l.length ≤ cap ∧ cap ≤ maxLen ∧ a.size = cap * k ∧ a.toList.take (l.length * k) = (l.map enc).flatten
theorem pN {α : Type} {enc : α → List Value} {k : Nat} (hk : ∀ x, (enc x).length = k) : ∀ l : List α, (l.map enc).flatten.length = l.length * k
 | [] => by simp
 | x :: l => by simp [pN hk l, hk x, cC, jY]
theorem za {α : Type} {enc : α → List Value} {k : Nat} (hk : ∀ x, (enc x).length = k) : ∀ (l : List α) (i : Nat) (x : α), l[i]? = some x → ∀ j y, (enc x)[j]? = some y → (l.map enc).flatten[i * k + j]? = some y
 | [], i, x, h => by cases h
 | z :: l, 0, x, h => by
  simp at h; subst h
  intro j y a
  have c : j < (enc z).length := (bB.1 a).1
  simp [fK, c]
  rw [cj c] at a
  simpa using a
 | z :: l, i + 1, x, h => by
  intro j y a
  have := za hk l i x (by simpa using h) j y a
  simp only [bE, dv]
  rw [fL (by rw [hk z]; have := Nat.le_mul_of_pos_left k (Nat.succ_pos i); simp [cC] at *; omega), hk z]
  rw [show (i + 1) * k + j - k = i * k + j by rw [cC]; omega]
  exact this
theorem Je {α : Type} {enc : α → List Value} {k : Nat} (hk : ∀ x, (enc x).length = k) : ∀ (l : List α) (q : Nat) (y : Value), (l.map enc).flatten[q]? = some y → ∃ i x j, l[i]? = some x ∧ (enc x)[j]? = some y ∧ q = i * k + j
 | [], q, y, h => by simp at h
 | z :: l, q, y, h => by
  simp only [bE, dv] at h
  by_cases c : q < k
  ·rw [List.getElem?_append_left (by rw [hk]; exact c)] at h
   exact ⟨0, z, q, rfl, h, by simp⟩
  ·rw [fL (by rw [hk]; omega), hk] at h
   obtain ⟨i, x, j, h1, a, d⟩ := Je hk l (q - k) y h
   exact ⟨i + 1, x, j, by simpa using h1, a, by rw [cC]; omega⟩
theorem kZ.nil {α : Type} (e : TypeId) (enc : α → List Value) (k : Nat) : kZ e enc k (.slice none 0 0) [] [] := .inl ⟨rfl, rfl, rfl⟩
theorem kZ.sl {α : Type} {e : TypeId} {enc : α → List Value} {k : Nat} {v : Value} {l : List α} {R : List (Nat × Obj)} {m : lq} (h : kZ e enc k v l R) (hk : ∀ x, (enc x).length = k) (hm : ∀ b o, (b, o) ∈ R → m b = some o) : Sl (Pl enc) k m v l := by
 rcases h with ⟨rfl, rfl, rfl⟩ | ⟨g, cap, a, rfl, rfl, h1, d, t, n⟩
 ·exact Sl.nil _ _ _
 ·refine ⟨_, cap, rfl, h1, d, fun _ => ⟨g, 0, a, e, (0, 0), rfl, hm _ _ (by simp), fun i x q => ⟨enc x, hk x, rfl, fun j y s => ?_⟩⟩⟩
  have := za hk l i x q j y s
  rw [← n] at this
  have c : i * k + j < l.length * k := by
   have := (bB.1 this).1
   simp at this; omega
  rw [dD c] at this
  simpa using this
theorem kZ.len {α : Type} {e : TypeId} {enc : α → List Value} {k : Nat} {v : Value} {l : List α} {R : List (Nat × Obj)} (h : kZ e enc k v l R) : l.length ≤ 9223372036854775807 := by
 rcases h with ⟨rfl, rfl, rfl⟩ | ⟨g, cap, a, rfl, rfl, h1, c, d, i⟩
 ·simp
 ·unfold maxLen at c; omega
theorem kZ.fr {α : Type} {e : TypeId} {enc : α → List Value} {k : Nat} {v : Value} {l : List α} {R X Y : List (Nat × Obj)} (h : kZ e enc k v l R) (a : ST dd lu w W μ (X ++ (R ++ Y))) : Fr w.heap.size v := by
 rcases h with ⟨rfl, rfl, rfl⟩ | ⟨g, cap, d, rfl, rfl, h1, i, j, m⟩
 ·exact Fr.nil _
 ·intro b c
  simp [Value.ownBlock] at c
  subst c
  rcases (a.box g _ (by simp; exact .inr (.inl rfl))).2.2 with h | h
  ·exact h
  ·exact h.elim
theorem kZ.lit {α : Type} {e : TypeId} {enc : α → List Value} {k b m : Nat} {l : List α} {cs : Array Value} (hm : l.length = m) (c : m ≤ maxLen) (d : cs.toList = (l.map enc).flatten) (a : cs.size = m * k) : kZ e enc k (.slice (some ⟨b, 0, none⟩) m m) l [(b, .cells cs e (0, 0))] := by
 subst hm
 refine .inr ⟨b, _, cs, rfl, rfl, bD _, c, a, ?_⟩
 rw [← d, ← a]
 exact cV (by rw [cR]; exact bD _)
def mM {α : Type} (a : Nat) (l m : List α) : Option (List α) := if (l.length + m.length) * a ≤ 140737488355328 ∧ l.length + m.length ≤ maxLen then some (l ++ m) else none
theorem Nu {K : Value → World → Prop} {α : Type} {e t : TypeId} {enc : α → List Value} {k ae : Nat} {z v vs : Value} {l m r : List α} {R : List (Nat × Obj)} (X : List (Nat × Obj)) {Y : List (Nat × Obj)} {x y : Operand} {i : TypeInfo} (s : ST dd F w W μ (X ++ (R ++ Y))) (hk : ∀ x, (enc x).length = k) (b4 : 0 < k) (h1 : ∀ x, ∀ u ∈ enc x, u.oneCell' = true) (ht : P.underlying t = some (.slice e)) (hi : P.info? e = some i) (hz : i.zero = some z) (b9 : z.cells.size = k) (b5 : i.size = k) (b2 : i.bytes = ae) (hx : kJ E x = v) (hy : kJ E y = vs) (hR : kZ e enc k v l R) (hs : Sl (Pl enc) k (hp W) vs m) (n : mM ae l m = some r) (h : ∀ W' v' R', ST dd F w W' μ (X ++ (R' ++ Y)) → kZ e enc k v' r R' → K v' W') : nN P E ⟨d, .call ⟨.builtin .append, #[x, y], #[t, t]⟩, ty, pos, af, g⟩ W K := by
 unfold mM at n
 split at n
 case isFalse => cases n
 rename_i ak
 cases n
 have ab : ∀ (V : Value) (W' : World), (Builtin.append_ #[t, t] ty #[v, vs]).run P W = .ok V W' → (execOp (kJ E) ⟨d, .call ⟨.builtin .append, #[x, y], #[t, t]⟩, ty, pos, af, g⟩).run P W = .ok (.value V) W' := by
  intro V W' hV
  show (do let d ← resolve (kJ E) ⟨.builtin .append, #[x, y], #[t, t]⟩ ty; invoke d.target d.args : Sem Next).run P W = _
  simp [resolve, invoke, builtin, hx, hy, hV]
 obtain ⟨A, c, rfl, bd, bf, b3⟩ := hs
 have aa : W.ownsRow 0 e k v l.length (l.map enc).flatten := by
  refine ⟨pN hk l, ?_⟩
  rcases hR with ⟨rfl, rfl, rfl⟩ | ⟨g, cap, J, rfl, rfl, h1, h2, h3, h4⟩
  ·exact .inl ⟨rfl, rfl⟩
  ·exact .inr ⟨g, cap, J, rfl, ej _, (s.box g _ (by simp)).1, h1, h2, h3, h4⟩
 have aw : m.length = 0 ∨ ∃ ad, A = some ad ∧ ∀ j u, (m.map enc).flatten[j]? = some u → W.cell? (ad.add j) = some u := by
  rcases dI m.length with Q | Q
  ·exact .inl Q
  ·obtain ⟨b, off, cs, T, fr, rfl, h6, h7⟩ := b3 Q
   refine .inr ⟨⟨b, off, none⟩, rfl, fun j u hu => ?_⟩
   obtain ⟨i, x, q, h8, h9, rfl⟩ := Je hk m j u hu
   obtain ⟨ys, _, az, aE⟩ := h7 i x h8
   cases az
   rw [dq, fJ W b (off + (i * k + q)) cs T fr h6, ← eZ]
   exact aE q u h9
 have av : ∀ u ∈ (m.map enc).flatten, u.oneCell' = true := by
  intro u hu
  obtain ⟨ys, b7, b6⟩ := iq.1 hu
  obtain ⟨x, _, rfl⟩ := bI.1 b7
  exact h1 x u b6
 by_cases aq : m.length = 0
 ·have hm : m = [] := bP aq
  subst hm
  have hr : (Builtin.append_ #[t, t] ty #[v, .slice A 0 c]).run P W = .ok v W := by
   rcases aa.2 with ⟨rfl, Q⟩ | ⟨g, cap, J, rfl, _, hg, ar, _, bh, _⟩
   ·cases A with
    | none => simp [Builtin.append_, aT ht, sizeOf, typeInfo, hi, Builtin.lenOf, Builtin.firstCells]
    | some ad => simp [Builtin.append_, aT ht, sizeOf, typeInfo, hi, Builtin.lenOf, Builtin.firstCells, loadCells, loadCellsFrom]
   ·cases A with
    | none => simp [Builtin.append_, aT ht, sizeOf, typeInfo, hi, Builtin.lenOf, Builtin.firstCells, ar, storeCells]
    | some ad => simp [Builtin.append_, aT ht, sizeOf, typeInfo, hi, Builtin.lenOf, Builtin.firstCells, loadCells, loadCellsFrom, ar, storeCells]
  exact .inl ⟨v, W, ab _ _ (by simpa using hr), by simpa using h W v R s (by simpa using hR)⟩
 rcases aw with Q | ⟨ad, rfl, a6⟩
 ·exact absurd Q aq
 obtain ⟨v', W', hr, ai, D, bc, M⟩ := run_append_own_at (P := P) W 0 t ty e i z k ae ht hi hz b5 b2 b9 b4 v l.length (l.map enc).flatten aa ad m.length c (m.map enc).flatten (pN hk m) a6 av ak.2 ak.1 (ej _)
 have ag := pp _ _ _ _ hr
 refine .inl ⟨v', W', ab _ _ hr, ?_⟩
 have hlen : (l ++ m).length = l.length + m.length := by simp
 rcases ai.2 with ⟨_, Q⟩ | ⟨Z, a7, a8, rfl, _, ah, ba, an, ao, ay⟩
 ·omega
 have aj : kZ e enc k (.slice (some ⟨Z, 0, none⟩) (l.length + m.length) a7) (l ++ m) [(Z, .cells a8 e (0, 0))] :=
  .inr ⟨Z, a7, a8, by rw [hlen], rfl, by omega, an, ao, by rw [hlen, ay]; simp⟩
 refine h W' _ _ ?_ aj
 have au := s.nd
 rcases hR with ⟨rfl, rfl, rfl⟩ | ⟨g, cap, J, rfl, rfl, q1, q2, q3, q4⟩
 ·-- nil: a new block
  have a1 : W.heap.size ≤ Z := by
   rcases M with h | h <;> simp [Value.ownBlock] at h
   omega
  have hex : Ex dd W W' := ⟨D.os, D.tape, D.output, vc.of ag, D.size, fun b n => D.block b n (by simp [Value.ownBlock])⟩
  have h1 := s.Ia hex
  refine ⟨h1.os, h1.tape, h1.output, h1.drawn, h1.size, h1.ng, h1.mem, fun b o n => ?_, ?_⟩
  ·simp only [aR, aN] at n
   rcases n with n | n | n
   ·exact h1.box b o (by simp [n])
   ·cases n
    refine ⟨ah, ?_, .inl (dj s.size a1)⟩
    cases hm : μ Z with
    | none => rfl
    | some x => have := s.FV hm; omega
   ·exact h1.box b o (by simp [n])
  ·simp only [bV, cq, bE, de] at au ⊢
   refine (fX fg).2 (cL.2 ⟨fun hm => ?_, au⟩)
   rw [← cq] at hm
   obtain ⟨⟨b, o⟩, n, L⟩ := bI.1 hm
   have b1 : (b, o) ∈ X ++ ([] ++ Y) := by simpa using n
   have := s.G2 b1
   simp at L
   omega
 ·by_cases ap : Z = g
  ·subst ap
   have Q : ST dd F w W μ (X ++ (Z, Obj.cells J e (0, 0)) :: Y) := by simpa using s
   have hold : ∀ b, b < W.heap.size → b ≠ Z → W'.heap[b]? = W.heap[b]? := fun b n I => D.block b n (by simp [Value.ownBlock]; exact I)
   have G := Q.nd
   simp only [cq, bE] at G
   have I : ∀ b o, (b, o) ∈ X ++ Y → b ≠ Z := fun b o n L => by
    subst L
    rcases aR.1 n with n | n
    ·exact (bO.1 G).2.2 b (bI.2 ⟨_, n, rfl⟩) b (by simp) rfl
    ·exact (cL.1 (bO.1 G).2.1).1 (bI.2 ⟨_, n, rfl⟩)
   have U := Q.box Z (Obj.cells J e (0, 0)) (by simp)
   refine ⟨D.os.trans s.os, D.tape.trans s.tape, D.output.trans s.output, vc.trans s.drawn (vc.of ag), dj s.size D.size, fun b n hF => ?_, fun b o n => ?_, fun b o n => ?_, by simpa using G⟩
   ·rw [hold b (cO n s.size) (fun L => by subst L; rcases U.2.2 with h | h; omega; exact hF h)]
    exact s.ng b n hF
   ·rw [hold b (s.FV n) (fun L => by subst L; rw [U.2.1] at n; cases n)]
    exact s.mem b o n
   ·simp only [aR, aN] at n
    rcases n with n | n | n
    ·obtain ⟨r1, r2⟩ := s.box b o (by simp [n])
     exact ⟨by rw [hold b (oT r1) (I b o (by simp [n]))]; exact r1, r2⟩
    ·cases n; exact ⟨ah, U.2⟩
    ·obtain ⟨r1, r2⟩ := s.box b o (by simp [n])
     exact ⟨by rw [hold b (oT r1) (I b o (by simp [n]))]; exact r1, r2⟩
  ·have a1 : W.heap.size ≤ Z := by
    rcases M with h | h <;> simp [Value.ownBlock] at h
    ·exact absurd h ap
    ·omega
   have Q : ST dd F w W μ (X ++ (g, Obj.cells J e (0, 0)) :: Y) := by simpa using s
   have U := Q.box g (Obj.cells J e (0, 0)) (by simp)
   have G := Q.nd
   simp only [cq, bE] at G
   have I : ∀ b o, (b, o) ∈ X ++ Y → b ≠ g := fun b o n L => by
    subst L
    rcases aR.1 n with n | n
    ·exact (bO.1 G).2.2 b (bI.2 ⟨_, n, rfl⟩) b (by simp) rfl
    ·exact (cL.1 (bO.1 G).2.1).1 (bI.2 ⟨_, n, rfl⟩)
   have hold : ∀ b, b < W.heap.size → b ≠ g → W'.heap[b]? = W.heap[b]? := fun b n I => D.block b n (by simp [Value.ownBlock]; exact I)
   refine ⟨D.os.trans s.os, D.tape.trans s.tape, D.output.trans s.output, vc.trans s.drawn (vc.of ag), dj s.size D.size, fun b n hF => ?_, fun b o n => ?_, fun b o n => ?_, ?_⟩
   ·rw [hold b (cO n s.size) (fun L => by subst L; rcases U.2.2 with h | h; omega; exact hF h)]
    exact s.ng b n hF
   ·rw [hold b (s.FV n) (fun L => by subst L; rw [U.2.1] at n; cases n)]
    exact s.mem b o n
   ·simp only [aR, aN] at n
    rcases n with n | n | n
    ·obtain ⟨r1, r2⟩ := s.box b o (by simp [n])
     exact ⟨by rw [hold b (oT r1) (I b o (by simp [n]))]; exact r1, r2⟩
    ·cases n
     refine ⟨ah, ?_, .inl (dj s.size a1)⟩
     cases hm : μ Z with
     | none => rfl
     | some x => have := s.FV hm; omega
    ·obtain ⟨r1, r2⟩ := s.box b o (by simp [n])
     exact ⟨by rw [hold b (oT r1) (I b o (by simp [n]))]; exact r1, r2⟩
   ·have b0 : (X.map (·.1) ++ Y.map (·.1)).Nodup := (cL.1 ((fX fg).1 G)).2
    simp only [cq, bE, de]
    refine (fX fg).2 (cL.2 ⟨fun hm => ?_, b0⟩)
    rw [← cq] at hm
    obtain ⟨⟨b, o⟩, n, L⟩ := bI.1 hm
    have := s.G2 (b := b) (o := o) (by rcases aR.1 n with h | h <;> simp [h])
    simp at L
    omega
end
end Go.Proofs.YtbnbdigcbldfhaaGreat
namespace Go.Proofs.YtbnbdigcbldfhaaGreat
open Go.RowKit
def zk (l : List Value) : Nat → Value := fun t => l.getD t undef
def zU (P : Program) (fn : Func) (R : Ending → World → Prop) : ov
 | .normal, E, W | .ret, E, W => ∃ v, (∀ tmps : Array Value, (∀ t, tmps.getD t undef = E t) → (results fn tmps).run P W = .ok v W) ∧ R (.returned v) W
 | _, _, _ => False
theorem B0 {P : Program} {f : FuncId} {fn : Func} {c : Code} {args : List Value} {w : World} {R : Ending → World → Prop} {n : Nat} (q : P.funcs[f]? = some fn) (o : fn.body = some c) (s : fn.ntmps = n) (ha : args.length ≤ n) (h : CW P n c (zU P fn R) (zk args) w) : Calls P f args.toArray w R := by
 refine calls_of_wp q o ?_
 have j : Ag n { tmps := args.toArray ++ Array.replicate (fn.ntmps - args.toArray.size) undef, defers := [] } (zk args) := by
  refine ⟨by simp; omega, rfl, fun t => ?_⟩
  simp only [zk, cU, fM, fC, ga, cN, fD]
  by_cases m : t < args.length
  ·rw [aK m]
  ·rw [aJ m, cQ (by omega)]
   split <;> simp
 refine gb (h _ j) (fun e a u g => ?_)
 cases e with
 | normal =>
  obtain ⟨E, d, v, k, i⟩ := g
  exact ⟨d.2.1, v, k _ d.2.2, i⟩
 | ret =>
  obtain ⟨E, d, v, k, i⟩ := g
  exact ⟨d.2.1, v, k _ d.2.2, i⟩
 | exit id => obtain ⟨E, d, h⟩ := g; exact h.elim
 | goto l => obtain ⟨E, d, h⟩ := g; exact h.elim
 | panic c => exact g.2.elim
 | outgrown => exact g.elim
section
variable {P : Program} {fn : Func} {R : Ending → World → Prop} {E : Nat → Value} {W : World}
theorem lQ {r : Tmp} {v : Value} (a : fn.results = #[.tmp r]) (d : E r = v) (h : R (.returned v) W) : zU P fn R .ret E W :=
 ⟨v, fun tmps c => by rw [results_tmp a, c, d], h⟩
theorem uk {r s : Tmp} {v u : Value} (c : fn.results = #[.tmp r, .tmp s]) (d : E r = v) (hu : E s = u) (h : R (.returned (.tuple #[v, u])) W) : zU P fn R .ret E W :=
 ⟨.tuple #[v, u], fun tmps a => by rw [results_tmp2 c, a, a, d, hu], h⟩
theorem wc (a : fn.results = #[]) (h : R (.returned (.tuple #[])) W) : zU P fn R .ret E W :=
 ⟨.tuple #[], fun tmps _ => by rw [results_none a], h⟩
theorem wR {r : Tmp} {t : TypeId} {a : Addr} {v : Value} (c : fn.results = #[.cell r t]) (i : E r = .pointer (some a)) (g : (Instr.loadAt t (.pointer (some a))).run P W = .ok v W) (h : R (.returned v) W) : zU P fn R .ret E W :=
 ⟨v, fun tmps d => by
  have h1 : (loadVar t a).run P W = .ok v W := by simpa [Instr.loadAt, Instr.sureAddr] using g
  simp [results, c, d, i, asAddr, h1], h⟩
theorem wZ (h : zU P fn R .ret E W) : zU P fn R .normal E W := h
end
section
variable {Q : ov} {E : Nat → Value} {W : World} {K : (Nat → Value) → World → Prop} {id j : Nat}
theorem lA (h : Q .normal E W) : ya id Q .normal E W := h
theorem mu (h : Q .ret E W) : ya id Q .ret E W := h
theorem uj (h : Q .normal E W) : ya id Q (.exit id) E W := by simp [ya]; exact h
theorem XV (a : (j = id) = False) (h : Q (.exit j) E W) : ya id Q (.exit j) E W := by simp only [ya, a, aS]; exact h
theorem kK (h : K E W) : qM K Q .normal E W := h
theorem lm (h : Q .ret E W) : qM K Q .ret E W := h
theorem nT (h : Q (.exit j) E W) : qM K Q (.exit j) E W := h
end
theorem Sw {i N : Nat} (c : i < N) (a : N ≤ 9223372036854775807) : IntKind.i64.wrap ((i : Int) + 1) = ((i + 1 : Nat) : Int) := by
 rw [IntWalk.i64_in _ (by omega)]
 omega
theorem lz {P : Program} {n : Nat} {Q : ov} {E : Nat → Value} {W : World} {g t r2 r6 o q D w : Nat} {t1 t2 t3 t4 t5 t6 t7 : TypeId} {U Y Z : String} {f1 f2 f3 : Array Edge} {body : Code} (I : Nat → (Nat → Value) → World → Prop) (N : Nat) (M : N ≤ 9223372036854775807) (G : I 0 E W) (R : o < n) (T : w < n) (A : q < n) (L : ∀ i E W, I i E W → E q = .int .i64 (i : Nat) ∧ E D = .int .i64 (N : Nat)) (round : ∀ i E W, i < N → I i E W → CW P n (.block t body) (qM (fun E' W' => E' q = .int .i64 (i : Nat) ∧ I (i + 1) (nE (nE E' w (.int .i64 ((i + 1 : Nat) : Int))) q (.int .i64 ((i + 1 : Nat) : Int))) W') (ya g Q)) (nE E o (.bool true)) W) (done : ∀ E W, I N E W → Q .normal (nE E o (.bool false)) W) :
  CW P n (.block g (.loop (.seq (.region r2 #[⟨some o, .binOp .lss t1 (.tmp q) (.tmp D) t2, t3, U, f1, none⟩] false)
   (.seq (.cond (.tmp o) .skip (.exit g)) (.seq (.block t body)
    (.region r6 #[⟨some w, .binOp .add t4 (.tmp q) (.const (.int .i64 1)) t5, t6, Y, f2, none⟩, ⟨some q, .move (.tmp w), t7, Z, f3, none⟩] false)))))) Q E W := by
 refine mP (ou (fun m E W => ∃ i, i ≤ N ∧ m = N - i ∧ I i E W) N ⟨0, ej _, by omega, G⟩ ?_)
 rintro m E W ⟨i, hi, rfl, d⟩
 obtain ⟨x, y⟩ := L i E W d
 refine kV (kT (KD (.inl rfl) rfl R (lK x y rfl) (lo ?_)))
 refine kK (kV ?_)
 have u : nE E o (.bool (decide ((i : Int) < (N : Int)))) o = .bool (decide ((i : Int) < (N : Int))) := by simp [nE]
 by_cases s : i < N
 ·have z : decide ((i : Int) < (N : Int)) = true := by simp; omega
  rw [z] at u ⊢
  refine zj u (lG (kK (kV ?_)))
  refine Kv (round i E W s d) (fun e E' W' h => ?_)
  cases e with
  | normal =>
   obtain ⟨h1, J⟩ := h
   refine kK ?_
   have hw : IntKind.i64.wrap ((i : Int) + 1) = ((i + 1 : Nat) : Int) := Sw s M
   refine kT (KD (v := .int .i64 ((i + 1 : Nat) : Int)) (.inl rfl) rfl T (lK (k := .i64) (a := (i : Int)) (b := 1) h1 rfl (by simp only [MG, hw])) ?_)
   refine KD (v := .int .i64 ((i + 1 : Nat) : Int)) (.inl rfl) rfl A (kM (by simp [kJ, nE])) (lo ?_)
   exact kK ⟨N - (i + 1), by omega, i + 1, by omega, rfl, J⟩
  | exit j => exact h
  | goto l => exact h
  | ret => exact h
  | panic c => exact h
  | outgrown => exact h
 ·have z : decide ((i : Int) < (N : Int)) = false := by simp; omega
  rw [z] at u ⊢
  obtain rfl : i = N := by omega
  refine qx u (ot (nT (nT (uj ?_))))
  exact done E W d
theorem SG {P : Program} {n : Nat} {x : Code} {Q : ov} {K : (Nat → Value) → World → Prop} {E : Nat → Value} {W : World} (J : (Nat → Value) → World → Prop) (h : CW P n x (qM J Q) E W) (k : ∀ E W, J E W → K E W) : CW P n x (qM K Q) E W :=
 Kv h (fun e E W h => by cases e <;> first | exact k E W h | exact h)
theorem Xp {α : Type} {c : Bool} {x y r : α} (a : c = true) (h : (if c = true then x else y) = r) : x = r := by rw [aK a] at h; exact h
theorem Xs {α : Type} {c : Bool} {x y r : α} (a : c = false) (h : (if c = true then x else y) = r) : y = r := by rw [aJ (by rw [a]; decide)] at h; exact h
theorem bind_some {α β : Type} {o : Option α} {f : α → Option β} {r : β} (h : o.bind f = some r) : ∃ y, o = some y ∧ f y = some r := by
 cases o with
 | none => cases h
 | some y => exact ⟨y, rfl, h⟩
theorem Rx (b : Bool) : b = true ∨ b = false := by cases b <;> simp
theorem ll {α : Type} {l : List α} {i : Nat} (h : i < l.length) : ∃ x xs, l.drop i = x :: xs ∧ l[i]? = some x ∧ l.drop (i + 1) = xs := by
 cases a : l.drop i with
 | nil => have := aU List.length a; simp at this; omega
 | cons x xs => exact ⟨x, xs, rfl, by rw [← List.head?_drop, a]; rfl, by rw [← List.drop_drop, a]; rfl⟩
theorem Ba {P : Program} {W : World} (d : Nat) (xs ys : Array Value) : (Op.eqFields d xs ys []).run P W = .ok true W := by simp [Op.eqFields]
theorem oU {P : Program} {W : World} {d : Nat} {xs ys : Array Value} {f : Field} {c : List Field} {a b : Value} {r s : Bool} (i : f.name ≠ "_") (ha : (part f.type xs f.offset).run P W = .ok a W) (g : (part f.type ys f.offset).run P W = .ok b W) (he : (Op.equalIn d f.type a b).run P W = .ok r W) (h : (Op.eqFields d xs ys c).run P W = .ok s W) : (Op.eqFields d xs ys (f :: c)).run P W = .ok (r && s) W := by
 simp only [Op.eqFields, ne_eq, i, not_false_eq_true, bA, cd, ha, g, he, bN]
 cases r <;> simp [h]
theorem tC {P : Program} {W : World} {t : TypeId} {k : Nat} {cs : Array Value} {off : Nat} {v : Array Value} (a : ∀ w, (isAgg t).run P w = .ok true w) (c : ∀ w, (sizeOf t).run P w = .ok k w) (d : cs.extract off (off + k) = v) : (part t cs off).run P W = .ok (.agg v) W := by
 simp [part, a W, c W, d]
theorem qv {P : Program} {W : World} {t : TypeId} {cs : Array Value} {off : Nat} {v : Value} (a : ∀ w, (isAgg t).run P w = .ok false w) (c : cs[off]? = some v) : (part t cs off).run P W = .ok v W := by
 simp [part, a W, c]
def mh (a b : ByteArray) : Bool := a.toList == b.toList
theorem Sa {P : Program} {t : TypeId} (c : P.underlying t = some .string) (d : Nat) (a b : ByteArray) (W : World) : (Op.equalIn (d + 1) t (.string a) (.string b)).run P W = .ok (mh a b) W := run_equalIn_string W d t a b c
theorem ZE {P : Program} {t : TypeId} {k : IntKind} (c : P.underlying t = some (.int k)) (d : Nat) (a b : Int) (W : World) : (Op.equalIn (d + 1) t (.int k a) (.int k b)).run P W = .ok (a == b) W := run_equalIn_int W d t k k a b c
theorem ns {P : Program} {op : BinOp} {t : TypeId} {x y : Operand} {a b : Array Value} (c : P.eqGuardType P.depth t = false) (W : World) : (eqGuard op t x y (.agg a) (.agg b)).run P W = .ok () W := by
 cases op <;> simp [eqGuard] <;> (intro h; rw [c] at h; cases h)
theorem qH {P : Program} {t : TypeId} {a b : Array Value} {r : Bool} (h : ∀ W, (Op.equalIn Op.maxDepth t (.agg a) (.agg b)).run P W = .ok r W) (W : World) : (binOp .eql t (.agg a) (.agg b)).run P W = .ok (.bool r) W := by
 simp [binOp, Op.equal, h W]
theorem BD {P : Program} {t : TypeId} {a b : Array Value} {r : Bool} (h : ∀ W, (Op.equalIn Op.maxDepth t (.agg a) (.agg b)).run P W = .ok r W) (W : World) : (binOp .neq t (.agg a) (.agg b)).run P W = .ok (.bool !r) W := by
 simp [binOp, Op.equal, h W]
variable {dd : Bool}
def lM (k : IntKind) (x : Int) : List Value := [.int k x]
def Q4 (x : Bool) : List Value := [.bool x]
def nu (x : ByteArray) : List Value := [.string x]
theorem Jo (k : IntKind) (x : Int) : ∀ u ∈ lM k x, u.oneCell' = true := by intro u hu; simp [lM] at hu; subst hu; rfl
theorem Zb (x : Bool) : ∀ u ∈ Q4 x, u.oneCell' = true := by intro u hu; simp [Q4] at hu; subst hu; rfl
theorem E2 (x : ByteArray) : ∀ u ∈ nu x, u.oneCell' = true := by intro u hu; simp [nu] at hu; subst hu; rfl
def zS : ByteArray := ⟨#[]⟩
def qz (a b : ByteArray) : Bool := Op.bytesLess a.toList b.toList
@[irreducible] def lE : Nat := 18446744073709551616
theorem pe : lE = 18446744073709551616 := by unfold lE; rfl
def mC {α : Type} (l : List α) (i : Int) : Option α := if 0 ≤ i then l[i.toNat]? else none
theorem mi {α : Type} {l : List α} {i : Int} {x : α} (h : mC l i = some x) : 0 ≤ i := by
 unfold mC at h; split at h
 ·assumption
 ·cases h
theorem lR {α : Type} {l : List α} {i : Int} {x : α} (h : mC l i = some x) : l[i.toNat]? = some x := by
 unfold mC at h; split at h
 ·exact h
 ·cases h
theorem Kt {α : Type} (l : List α) (i : Nat) : mC l (i : Int) = l[i]? := by simp [mC]
def CB (s : ByteArray) (i : Int) : Option UInt8 := if 0 ≤ i then s[i.toNat]? else none
theorem BZ {s : ByteArray} {i : Int} {x : UInt8} (h : CB s i = some x) : 0 ≤ i := by
 unfold CB at h; split at h
 ·assumption
 ·cases h
theorem F7 {s : ByteArray} {i : Int} {x : UInt8} (h : CB s i = some x) : s[i.toNat]? = some x := by
 unfold CB at h; split at h
 ·exact h
 ·cases h
section
variable {F : Nat → Prop} {w W : World} {μ : lq} {L L' : List (Nat × Obj)} {α : Type} {e : TypeId} {enc : α → List Value} {k : Nat} {v : Value} {l : List α} {R : List (Nat × Obj)}
theorem ST.at_ (h : ST dd F w W μ L) {b : Nat} {o : Obj} (a : (b, o) ∈ L) : hp W b = some o := (h.box b o a).1
theorem kZ.Sx (h : kZ e enc k v l R) (hk : ∀ x, (enc x).length = k) (a : ST dd F w W μ L) (c : ∀ p, p ∈ R → p ∈ L) : Sl (Pl enc) k (hp W) v l :=
 h.sl hk (fun _ _ d => a.at_ (c _ d))
theorem kZ.form (h : kZ e enc k v l R) : ∃ A c, v = .slice A l.length c := by
 rcases h with ⟨rfl, rfl, rfl⟩ | ⟨g, cap, a, rfl, rfl, h1, d, i, j⟩
 ·exact ⟨_, _, rfl⟩
 ·exact ⟨_, _, rfl⟩
theorem Sl.form {R : rH α} (h : Sl R k μ v l) : ∃ A c, v = .slice A l.length c := let ⟨A, c, h, _⟩ := h; ⟨A, c, h⟩
theorem kZ.RQ (h : kZ e enc k v l R) (c : ST dd lu w W μ L) (i : ∀ p, p ∈ R → p ∈ L) : Fr w.heap.size v := by
 rcases h with ⟨rfl, rfl, rfl⟩ | ⟨g, cap, a, rfl, rfl, h1, j, m, n⟩
 ·exact Fr.nil _
 ·intro b d
  simp [Value.ownBlock] at d
  subst d
  rcases (c.box g (.cells a e (0, 0)) (i _ (aN.2 rfl))).2.2 with h | h
  ·exact h
  ·exact h.elim
theorem Sl.lit {b m : Nat} {cs : Array Value} (hk : ∀ x, (enc x).length = k) (hm : l.length = m) (c : m ≤ maxLen) (a : cs.toList = (l.map enc).flatten) (d : μ b = some (.cells cs e (0, 0))) : Sl (Pl enc) k μ (.slice (some ⟨b, 0, none⟩) m m) l :=
 (kZ.lit (e := e) (b := b) hm c a (by have := aU List.length a; rw [pN hk, cR, hm] at this; exact this)).sl hk (fun g o h => by simp at h; obtain ⟨rfl, rfl⟩ := h; exact d)
theorem Fr.box (h : ST dd lu w W μ L) {b m c : Nat} {o : Obj} (d : (b, o) ∈ L) : Fr w.heap.size (.slice (some ⟨b, 0, none⟩) m c) := by
 intro g a
 simp [Value.ownBlock] at a
 subst a
 rcases (h.box b o d).2.2 with h | h
 ·exact h
 ·exact h.elim
theorem ST.perm (h : ST dd F w W μ L) (hp : L.Perm L') : ST dd F w W μ L' :=
 ⟨h.os, h.tape, h.output, h.drawn, h.size, h.ng, h.mem, fun b o a => h.box b o (hp.mem_iff.2 a), (hp.map _).nodup_iff.1 h.nd⟩
theorem ST.sublist (h : ST dd F w W μ L) (a : L'.Sublist L) : ST dd F w W μ L' :=
 ⟨h.os, h.tape, h.output, h.drawn, h.size, h.ng, h.mem, fun b o c => h.box b o (a.subset c), h.nd.sublist (a.map _)⟩
end
section
variable {E : Nat → Value} {x1 x2 x3 x4 x5 x6 : Operand} {v1 v2 v3 v4 v5 v6 : Value}
theorem pz (h1 : kJ E x1 = v1) : #[x1].map (kJ E) ++ (#[] : Array Value) = [v1].toArray := by simp [h1]
theorem pM (h1 : kJ E x1 = v1) (a : kJ E x2 = v2) : #[x1, x2].map (kJ E) ++ (#[] : Array Value) = [v1, v2].toArray := by simp [h1, a]
theorem YF (h1 : kJ E x1 = v1) (a : kJ E x2 = v2) (c : kJ E x3 = v3) : #[x1, x2, x3].map (kJ E) ++ (#[] : Array Value) = [v1, v2, v3].toArray := by simp [h1, a, c]
theorem YG (h1 : kJ E x1 = v1) (a : kJ E x2 = v2) (c : kJ E x3 = v3) (d : kJ E x4 = v4) : #[x1, x2, x3, x4].map (kJ E) ++ (#[] : Array Value) = [v1, v2, v3, v4].toArray := by simp [h1, a, c, d]
end
theorem Lr : ∀ (v : List Value) (i off : Nat) (cells : Array Value), off + i + v.length ≤ cells.size →
  (v.zipIdx i).foldl (fun cs (c, j) => cs.setIfInBounds (off + j) c) cells = (cells.toList.take (off + i) ++ v ++ cells.toList.drop (off + i + v.length)).toArray
 | [], i, off, cells, h => by simp
 | c :: v, i, off, cells, h => by
  simp only [List.zipIdx_cons, List.foldl_cons]
  simp only [aH] at h
  rw [Lr v (i + 1) off _ (by simp; omega)]
  have g : off + i < cells.toList.length := by simp; omega
  congr 1
  rw [Array.toList_setIfInBounds]
  apply dG
  intro j
  have k : (cells.toList.take (off + i)).length = off + i := by simp; omega
  by_cases h1 : j < off + i
  ·simp only [fK, aI, cz, iM, cR, aH, dA, eU, dz]
   rw [show min (off + (i + 1)) cells.size = off + (i + 1) by omega, show min (off + i) cells.size = off + i by omega]
   rw [aK (by omega), aK (by omega), aK (by omega), aJ (by omega), aK (by omega), aK (by omega), aK (by omega)]
  ·by_cases d : j = off + i
   ·subst d
    simp [fK, dA, eU, show off + i < off + (i + 1) by omega]
    rw [aK (by omega), aK (by omega), aJ (by omega), show off + i - min (off + i) cells.size = 0 by omega]
    rfl
   ·simp only [fK, aI, cz, iM, cR, aH, dA, eU, dz]
    rw [show min (off + (i + 1)) cells.size = off + (i + 1) by omega, show min (off + i) cells.size = off + i by omega]
    by_cases a : j < off + (i + 1) + v.length
    ·rw [aK a, aJ (by omega), aK (by omega), aJ (by omega)]
     rw [show j - (off + i) = (j - (off + (i + 1))) + 1 by omega]
     simp
    ·rw [aJ a, aJ (by omega), aJ (by omega)]
     congr 1
     omega
theorem Oe {k : Nat} : ∀ (vs : List Value) (i : Nat) (pre rest : List Value), (∀ v ∈ vs, v.cells.size = k) → pre.length = i * k → rest.length = vs.length * k →
  Instr.fill (fun i => some (i * k, k)) (pre ++ rest).toArray ((vs.zipIdx i).map (fun p => (p.2, p.1))) = some (pre ++ vs.flatMap (fun v => v.cells.toList)).toArray
 | [], i, pre, rest, g, hp, d => by
  have : rest = [] := by cases rest <;> simp at d ⊢
  simp [Instr.fill, this]
 | v :: vs, i, pre, rest, g, hp, d => by
  have a := g v (by simp)
  have h : v.cells.zipIdx.foldl (fun cs (c, j) => cs.setIfInBounds (i * k + j) c) (pre ++ rest).toArray = (pre ++ v.cells.toList ++ rest.drop k).toArray := by
   have := Lr v.cells.toList 0 (i * k) (pre ++ rest).toArray (by simp [hp, d, a, cC])
   rw [← Array.toList_zipIdx, Array.foldl_toList] at this
   rw [this]
   congr 1
   simp [← hp, a]
  simp only [List.zipIdx_cons, bE, Instr.fill]
  rw [aJ (by simp [a, hp, d, cC]), h]
  have := Oe vs (i + 1) (pre ++ v.cells.toList) (rest.drop k) (fun u hu => g u (by simp [hu])) (by simp [hp, a, cC]) (by simp [d, cC])
  rw [this]
  simp
theorem Tt {k m : Nat} {a cs : Array Value} {c : Array (Nat × Value)} (vs : List Value) (g : c.toList = vs.zipIdx.map (fun p => (p.2, p.1))) (j : ∀ v ∈ vs, v.cells.size = k) (hm : vs.length = m) (h : a.size = m * k) (d : (vs.flatMap (fun v => v.cells.toList)).toArray = cs) : Instr.fill (fun i => some (i * k, k)) a c.toList = some cs := by
 subst hm d
 rw [g]
 have := Oe vs 0 [] a.toList j (by simp) (by simpa using h)
 simpa using this
theorem zK {P : Program} {t e : TypeId} {m k : Nat} {z : Value} {a : Array (Nat × Value)} {cs : Array Value} (vs : List Value) (i : P.underlying t = some (.slice e)) (h : ∀ w, (sizeOf e).run P w = .ok k w) (n : ∀ w, (zeroValue e).run P w = .ok z w) (hm : m * k ≤ 16777216) (g : a.toList = vs.zipIdx.map (fun p => (p.2, p.1))) (j : ∀ v ∈ vs, v.cells.size = k) (d : vs.length = m) (c : (vs.flatMap (fun v => v.cells.toList)).toArray = cs) (W : World) :
  (Instr.buildSlice t m a).run P W = .ok (.slice (some ⟨W.heap.size, 0, none⟩) m m) (W.alloc (.cells cs e (0, 0))) :=
 Kn i h n hm (Tt vs g j d (by simp) c) W
theorem vj {E : Nat → Value}  : (#[] : Array (Nat × Operand)).map (fun (i, x) => (i, kJ E x)) = #[] := by simp
theorem mN {E : Nat → Value} {x0 : Operand} {v0 : Value} {i0 : Nat} (a : kJ E x0 = v0) : (#[(i0, x0)] : Array (Nat × Operand)).map (fun (i, x) => (i, kJ E x)) = #[(i0, v0)] := by simp [a]
theorem pH {E : Nat → Value} {x0 x1 : Operand} {v0 v1 : Value} {i0 i1 : Nat} (a : kJ E x0 = v0) (h1 : kJ E x1 = v1) : (#[(i0, x0), (i1, x1)] : Array (Nat × Operand)).map (fun (i, x) => (i, kJ E x)) = #[(i0, v0), (i1, v1)] := by simp [a, h1]
theorem Td {E : Nat → Value} {x0 x1 x2 : Operand} {v0 v1 v2 : Value} {i0 i1 i2 : Nat} (a : kJ E x0 = v0) (h1 : kJ E x1 = v1) (c : kJ E x2 = v2) : (#[(i0, x0), (i1, x1), (i2, x2)] : Array (Nat × Operand)).map (fun (i, x) => (i, kJ E x)) = #[(i0, v0), (i1, v1), (i2, v2)] := by simp [a, h1, c]
theorem NZ {E : Nat → Value} {x0 x1 x2 x3 : Operand} {v0 v1 v2 v3 : Value} {i0 i1 i2 i3 : Nat} (a : kJ E x0 = v0) (h1 : kJ E x1 = v1) (c : kJ E x2 = v2) (d : kJ E x3 = v3) : (#[(i0, x0), (i1, x1), (i2, x2), (i3, x3)] : Array (Nat × Operand)).map (fun (i, x) => (i, kJ E x)) = #[(i0, v0), (i1, v1), (i2, v2), (i3, v3)] := by simp [a, h1, c, d]
theorem lI {P : Program} {t : TypeId} {f off : Nat} {a : Array Field} {fd : Field} (h : P.underlying t = some (.struct a)) (c : a[f]? = some fd) {k : Nat} (g : ∀ w, (sizeOf fd.type).run P w = .ok k w) (hk : k ≠ 0) (d : fd.offset = off) : mj P t f off := by
 intro b o w
 subst d
 simp [Instr.fieldAt, aT h, c, Instr.sureAddr, fieldPlace, dq, g w, hk]
theorem Ag.JB {n : Nat} {a : Act} {E : Nat → Value} (h : Ag n a E) {ops : Array Oper} {j t : Nat} (d : (ops[j]?).bind (·.dst) = some t) (i : t < n) (k : E t = undef) : yielded ops a.tmps j = none := by
 have c := h.2.2 t
 have g : a.tmps[t]? = some (E t) := by
  rw [← c]
  simp [cU, h.1, i]
 simp [yielded, d, g, k, undef]
theorem Xv {P : Program} {n : Nat} {Q : ov} {E : Nat → Value} {W : World} {ops : Array Oper} {rest : List Oper} {o : Oper} {d j t : Nat} {want : Bool} (g : o.dst = some d) (m : d < n) (i : o.guard = some (j, want)) (k : (ops[j]?).bind (·.dst) = some t) (q : t < n) (c : E t = undef) (h : LW P n ops Q rest (nE E d undef) W) : LW P n ops Q (o :: rest) E W := fun a ha => by
 unfold wpList
 have s := ha.JB k q c
 rw [aJ (by simp [Region.wanted, i, s])]
 rw [g]
 exact h _ (ha.put m _)
theorem X6 {P : Program} {n : Nat} {Q : ov} {E : Nat → Value} {W : World} {ops : Array Oper} {rest : List Oper} {A : Value → Prop} {o : Oper} {dd : Nat} (hw : mG n ops E o) (c : o.dst = some dd) (d : dd < n) (g : ∃ p, A p ∧ ∀ W, mA P E o W p W) (h : ∀ p, A p → LW P n ops Q rest (nE E dd p) W) : LW P n ops Q (o :: rest) E W := by
 obtain ⟨p, h1, a⟩ := g
 exact KD hw c d (a W) (h p h1)
end Go.Proofs.YtbnbdigcbldfhaaGreat
namespace Go.Proofs.YtbnbdigcbldfhaaGreat
open Go.RowKit
variable {dd : Bool}
theorem vG {P : Program} {n : Nat} {x : Code} {Q : ov} {E : Nat → Value} {W : World} (h : CW P n x (qM (fun E W => Q .normal E W) Q) E W) : CW P n x Q E W :=
 Kv h (fun e E W h => by cases e <;> exact h)
section
variable {P : Program} {n : Nat} {Q : ov} {E : Nat → Value} {W : World} {d : Option Nat} {ty : TypeId} {pos : String} {af : Array Edge} {g : Option (Nat × Bool)}
 {F : Nat → Prop} {w : World} {μ : lq} {L : List (Nat × Obj)}
def UY (k : IntKind) (op : BinOp) (a b : Int) : Option Value :=
 match op with
 | .quo => some (.int k (k.wrap (a.tdiv b)))
 | .rem => some (.int k (a.tmod b))
 | .and => some (.int k (k.wrap (BitVec.ofInt k.bits a &&& BitVec.ofInt k.bits b).toNat))
 | .or => some (.int k (k.wrap (BitVec.ofInt k.bits a ||| BitVec.ofInt k.bits b).toNat))
 | _ => none
theorem F3 {op : BinOp} {tx tv : TypeId} {x y : Operand} {k : IntKind} {a b : Int} {v : Value} (i : kJ E x = .int k a) (j : kJ E y = .int k b) (h : b ≠ 0) (c : UY k op a b = some v) :
  mA P E ⟨d, .binOp op tx x y tv, ty, pos, af, g⟩ W v W := by
 show (do let r ← (do eqGuard op tx x y (kJ E x) (kJ E y); binOp op tx (kJ E x) (kJ E y)); pure (.value r) : Sem Next).run P W = _
 rw [i, j]
 cases op <;> simp [UY] at c <;> subst c <;> simp [eqGuard, binOp, Op.intDiv, Op.intBits, h]
theorem Rt {tx tv : TypeId} {x y : Operand} {k k' : IntKind} {a b : Int} (c : kJ E x = .int k a) (h : kJ E y = .int k' b) (i : 0 ≤ b) :
  mA P E ⟨d, .binOp .shr tx x y tv, ty, pos, af, g⟩ W (.int k (a.fdiv (2 ^ min b.toNat k.bits))) W := by
 show (do let r ← (do eqGuard .shr tx x y (kJ E x) (kJ E y); binOp .shr tx (kJ E x) (kJ E y)); pure (.value r) : Sem Next).run P W = _
 rw [c, h]
 simp [eqGuard, binOp, Op.shift, show ¬ b < 0 by omega]
theorem Cj {s t : TypeId} {x : Operand} {k k' : IntKind} {a : Int} {u : TypeDesc} (c : P.underlying s = some u) (h : P.underlying t = some (.int k)) (i : kJ E x = .int k' a) :
  mA P E ⟨d, .convert s t x, ty, pos, af, g⟩ W (.int k (k.wrap a)) W := by
 show (do pure (.value (← convert s t (kJ E x))) : Sem Next).run P W = _
 rw [i]
 simp [convert, aT c, aT h, Conv.intToInt]
theorem Kx {t e : TypeId} (dd : Nat) (a : P.underlying t = some (.slice e)) (A : Option Addr) (l c : Nat) (W : World) : (Op.equalIn (dd + 1) t (.slice A l c) (.slice none 0 0)).run P W = .ok A.isNone W := by
 cases A <;> simp [Op.equalIn, aT a]
theorem Ed {tx tv e : TypeId} {x y : Operand} {A : Option Addr} {l c : Nat} (h : P.underlying tx = some (.slice e)) (i : kJ E x = .slice A l c) (j : kJ E y = .slice none 0 0) :
  mA P E ⟨d, .binOp .eql tx x y tv, ty, pos, af, g⟩ W (.bool A.isNone) W := by
 show (do let r ← (do eqGuard .eql tx x y (kJ E x) (kJ E y); binOp .eql tx (kJ E x) (kJ E y)); pure (.value r) : Sem Next).run P W = _
 rw [i, j]
 have a := Kx 9999 h A l c W
 simp [eqGuard, binOp, Op.equal, show Op.maxDepth = 9999 + 1 from rfl, a]
def vg (s : ByteArray) : List Int := s.data.toList.map (fun b => (b.toNat : Int))
def FK (s : ByteArray) : Option (List Int) := if s.size ≤ maxLen then some (vg s) else none
theorem nJ (s : ByteArray) : (vg s).length = s.size := by simp only [vg, dB, cR]; rfl
theorem Rj {s : ByteArray} {cap i : Nat} {x : Int} (h : (vg s)[i]? = some x) : (bytesRow s cap)[i]? = some (.int .u8 x) := by
 have d : i < s.size := by have := (bB.1 h).1; rwa [nJ] at this
 have a : i < s.data.size := d
 simp [vg] at h
 obtain ⟨b, c, rfl⟩ := h
 rw [bytesRow, Array.getElem?_append_left (by simpa using a)]
 simp [c]
theorem LP {K : Value → World → Prop} {s t e : TypeId} {x : Operand} {str : ByteArray} {l : List Int} (c : ST dd F w W μ L) (q : P.underlying s = some .string) (o : P.underlying t = some (.slice e)) (he : P.underlying e = some (.int .u8)) (m : kJ E x = .string str) (a : FK str = some l) (h : ∀ W' v μ', ST dd F w W' μ' L → lb μ μ' → Lo F w μ μ' → Sl (Pl (lM .u8)) 1 μ' v l → Fr w.heap.size v → K v W') : nN P E ⟨d, .convert s t x, ty, pos, af, g⟩ W K := by
 unfold FK at a
 split at a
 case isFalse => cases a
 rename_i hm
 cases a
 have k := run_bytes_of_string (P := P) W s t e str q o he
 have h1 := c.drew.alloc (.cells (bytesRow str (grownCap W str.size 0 e)) e ((bytesRow str (grownCap W str.size 0 e)).size, (bytesRow str (grownCap W str.size 0 e)).size + 1))
 refine .inl ⟨.slice (some ⟨W.heap.size, 0, none⟩) str.size (grownCap W str.size 0 e), _, ?_, h _ _ _ (ST.KN (A := []) h1) (ST.Ku (A := []) h1) (ST.SL (A := []) h1) ?_ ?_⟩
 ·show (do pure (.value (← convert s t (kJ E x))) : Sem Next).run P W = _
  rw [m]
  simp only [cd, k, bN, db]
 ·refine ⟨_, grownCap W str.size 0 e, by rw [nJ], by rw [nJ]; exact grownCap_ge W str.size 0 e, jd W str.size 0 e hm, fun _ => ⟨W.heap.size, 0, bytesRow str (grownCap W str.size 0 e), e, _, rfl, aK rfl, fun i x m => ⟨_, rfl, rfl, fun j y n => ?_⟩⟩⟩
  cases j with
  | zero => simp [lM] at n; subst n; simpa using Rj m
  | succ j => simp [lM] at n
 ·intro b a
  simp [Value.ownBlock] at a
  subst a
  exact c.size
def Cl (l : List Int) : ByteArray := l.foldl (fun r n => r.push (UInt8.ofNat n.toNat)) ByteArray.empty
theorem KH {s t e : TypeId} {x : Operand} {v : Value} {l : List Int} (D : P.underlying s = some (.slice e)) (he : P.underlying e = some (.int .u8)) (z : P.underlying t = some .string) (I : kJ E x = v) (G : Sl (Pl (lM .u8)) 1 (hp W) v l) :
  mA P E ⟨d, .convert s t x, ty, pos, af, g⟩ W (.string (Cl l)) W := by
 show (do pure (.value (← convert s t (kJ E x))) : Sem Next).run P W = _
 obtain ⟨A, c, rfl, J, L, q⟩ := G
 rw [I]
 simp only [cd, run_convert_bytes_string W s t e A l.length c D he z]
 rcases dI l.length with h | h
 ·have : l = [] := dH.1 h
  subst this
  cases A with
  | none => simp [Conv.bytesToString, Cl]
  | some a =>
   have u := run_bytesToString (P := P) W a 0 c [] (by simpa using jc (P := P) W a [] (by simp))
   simp only [bX]
   rw [u]
   simp [Cl]
 ·obtain ⟨b, off, cs, T, fr, rfl, w, y⟩ := q h
  have o := jc (P := P) W ⟨b, off, none⟩ (l.map (Value.int .u8)) (fun j v n => by
   simp at n
   obtain ⟨x, k, rfl⟩ := n
   obtain ⟨ys, _, m, i⟩ := y j x k
   cases m
   rw [dq, fJ W b (off + j) cs T fr w]
   have := i 0 (.int .u8 x) rfl
   simpa using this)
  simp only [dB] at o
  rw [run_bytesToString W _ l.length c l o]
  simp [Cl]
end
end Go.Proofs.YtbnbdigcbldfhaaGreat
namespace Go.Proofs.YtbnbdigcbldfhaaGreat
open Go.RowKit
variable {dd : Bool}
def keys (L : List (Nat × Obj)) : Nat → Prop := fun b => ∃ o, (b, o) ∈ L
structure ZB (dd : Bool) (F : Nat → Prop) (w W : World) : Prop where
 os : W.os = w.os
 tape : W.tape = w.tape
 output : W.output = w.output
 drawn : vc dd w.drawn W.drawn
 size : w.heap.size ≤ W.heap.size
 ng : ∀ b, b < w.heap.size → ¬ F b → W.heap[b]? = w.heap[b]?
def E1 (L : List (Nat × Obj)) (W : World) : Prop := ∀ b o, (b, o) ∈ L → W.heap[b]? = some o
structure sR (dd : Bool) (L0 L1 : List (Nat × Obj)) (w w' : World) : Prop where
 ex : ZB dd (keys L0) w w'
 held : ∀ b o, (b, o) ∈ L1 → w'.heap[b]? = some o ∧ (w.heap.size ≤ b ∨ keys L0 b)
 nd : (L1.map (·.1)).Nodup
open Classical in
noncomputable def sS (w : World) (L : List (Nat × Obj)) : lq := fun b => if keys L b then none else w.heap[b]?
open Classical in
noncomputable def Et (μ : lq) (W W' : World) (L1 : List (Nat × Obj)) : lq := fun b => if b < W.heap.size then μ b else if keys L1 b then none else W'.heap[b]?
section
variable {F : Nat → Prop} {w W W' : World} {μ μ' : lq} {L L0 L1 : List (Nat × Obj)}
theorem ST.XF (a : E1 L0 w) (c : (L0.map (·.1)).Nodup) : ST dd (keys L0) w w (sS w L0) L0 :=
 ⟨rfl, rfl, rfl, vc.of (bD _), bD _, fun _ _ _ => rfl, fun b o h => by
  unfold sS at h; split at h
  ·cases h
  ·exact h, fun b o h => ⟨a b o h, by unfold sS; rw [aK ⟨o, h⟩], .inr ⟨o, h⟩⟩, c⟩
theorem ST.Xm (h : ST dd (keys L0) w W μ L1) : sR dd L0 L1 w W :=
 ⟨⟨h.os, h.tape, h.output, h.drawn, h.size, h.ng⟩, fun b o a => ⟨(h.box b o a).1, (h.box b o a).2.2⟩, h.nd⟩
theorem H9 {A B : List (Nat × Obj)} (h : ((A ++ B).map (·.1)).Nodup) {b : Nat} {o : Obj} (a : (b, o) ∈ B) : ¬ keys A b := by
 rintro ⟨d, c⟩
 rw [cq] at h
 exact (bO.1 h).2.2 b (bI.2 ⟨_, c, rfl⟩) b (bI.2 ⟨_, a, rfl⟩) rfl
theorem ST.back (h : ST dd F w W μ (L0 ++ L)) (j : sR dd L0 L1 W W') : ST dd F w W' (Et μ W W' L1) (L1 ++ L) := by
 have hk : ∀ b, keys L0 b → b < W.heap.size ∧ μ b = none ∧ (w.heap.size ≤ b ∨ F b) := fun b ⟨o, d⟩ => by
  obtain ⟨h1, g, n⟩ := h.box b o (bF _ d)
  exact ⟨oT h1, g, n⟩
 refine ⟨j.ex.os.trans h.os, j.ex.tape.trans h.tape, j.ex.output.trans h.output, vc.trans h.drawn j.ex.drawn, dj h.size j.ex.size, fun b i q => ?_, fun b o d => ?_, fun b o d => ?_, ?_⟩
 ·rw [j.ex.ng b (cO i h.size) (fun k => by
   rcases (hk b k).2.2 with h | h
   ·omega
   ·exact q h)]
  exact h.ng b i q
 ·unfold Et at d
  split at d
  ·rename_i i
   rw [j.ex.ng b i (fun k => by rw [(hk b k).2.1] at d; cases d)]
   exact h.mem b o d
  ·split at d
   ·cases d
   ·exact d
 ·rcases aR.1 d with d | d
  ·obtain ⟨h1, g⟩ := j.held b o d
   refine ⟨h1, ?_, ?_⟩
   ·unfold Et
    split
    ·rename_i i
     rcases g with g | g
     ·omega
     ·exact (hk b g).2.1
    ·rw [aK ⟨o, d⟩]
   ·rcases g with g | g
    ·exact .inl (dj h.size g)
    ·exact (hk b g).2.2
  ·obtain ⟨h1, g, n⟩ := h.box b o (cy _ d)
   refine ⟨?_, ?_, n⟩
   ·rw [j.ex.ng b (oT h1) (H9 h.nd d)]; exact h1
   ·unfold Et; rw [aK (oT h1)]; exact g
 ·rw [cq]
  have t : (L.map (·.1)).Nodup := by have := h.nd; rw [cq] at this; exact (bO.1 this).2.1
  refine bO.2 ⟨j.nd, t, fun a ha c u e => ?_⟩
  subst e
  obtain ⟨⟨b, o⟩, d, rfl⟩ := bI.1 ha
  obtain ⟨⟨s, v⟩, m, e⟩ := bI.1 u
  simp at e; subst e
  have i := h.G2 (cy _ m)
  rcases (j.held s o d).2 with g | g
  ·omega
  ·exact H9 h.nd m g
theorem ST.Om (h : ST dd F w W μ L) (W' : World) (L1 : List (Nat × Obj)) : Lo F w μ (Et μ W W' L1) := fun b a _ => aK (cO a h.size)
theorem ST.Lm (h : ST dd F w W μ L) (W' : World) (L1 : List (Nat × Obj)) : lb μ (Et μ W W' L1) := fun b o a => by
 unfold Et; rw [aK (h.FV a)]; exact a
theorem ST.ma (h : ST dd F w W μ L) (c : ∀ p, p ∈ L0 → p ∈ L) : lb μ (sS W L0) := fun b o a => by
 unfold sS
 rw [aJ]
 ·exact h.mem b o a
 ·rintro ⟨g, d⟩
  rw [(h.box b g (c _ d)).2.1] at a
  cases a
theorem sR.MJ (h : Ex dd w W) (c : ∀ b o, (b, o) ∈ L1 → W.heap[b]? = some o ∧ w.heap.size ≤ b) (d : (L1.map (·.1)).Nodup) : sR dd [] L1 w W :=
 ⟨⟨h.os, h.tape, h.output, h.drawn, h.size, fun b a _ => h.ng b a⟩, fun b o a => ⟨(c b o a).1, .inl (c b o a).2⟩, d⟩
end
def mn (dd : Bool) (P : Program) (f : FuncId) (args : List Value) (w : World) (L0 : List (Nat × Obj)) (K : Value → List (Nat × Obj) → World → Prop) : Prop :=
 Calls P f args.toArray w fun e a => ∃ v L1, e = .returned v ∧ sR dd L0 L1 w a ∧ K v L1 a
def lT (dd : Bool) {α : Type} (P : Program) (f : FuncId) (args : List Value) (w : World) (e : TypeId) (enc : α → List Value) (k : Nat) (l : List α) : Prop :=
 mn dd P f args w [] fun v R _ => kZ e enc k v l R
theorem sR.mz {L0 L1 : List (Nat × Obj)} {w a : World} (h : sR true L0 L1 w a) : sR dd L0 L1 w a := ⟨⟨h.ex.os, h.ex.tape, h.ex.output, vc.of (h.ex.drawn rfl), h.ex.size, h.ex.ng⟩, h.held, h.nd⟩
theorem lg.mz {P : Program} {f : FuncId} {args : List Value} {w : World} {v : Value} (h : lg true P f args w v) : lg dd P f args w v := cD h fun _ _ h => ⟨h.1, h.2.mz⟩
theorem mn.mz {P : Program} {f : FuncId} {args : List Value} {w : World} {L0 : List (Nat × Obj)} {K : Value → List (Nat × Obj) → World → Prop} (h : mn true P f args w L0 K) : mn dd P f args w L0 K := cD h fun _ _ ⟨v, L1, h1, a, c⟩ => ⟨v, L1, h1, a.mz, c⟩
theorem lT.mz {α : Type} {P : Program} {f : FuncId} {args : List Value} {w : World} {e : TypeId} {enc : α → List Value} {k : Nat} {l : List α} (h : lT true P f args w e enc k l) : lT dd P f args w e enc k l := mn.mz h
section
variable {P : Program} {E : Nat → Value} {W : World} {d : Option Nat} {ty : TypeId} {pos : String} {af : Array Edge} {g : Option (Nat × Bool)}
 {F : Nat → Prop} {w : World} {μ : lq} {L : List (Nat × Obj)}
theorem TU {K : Value → World → Prop} {K' : Value → List (Nat × Obj) → World → Prop} {f : FuncId} {fv : Operand} {ax : Array Operand} {ats : Array TypeId} {caps : Array Value} {args : List Value} (L0 L2 : List (Nat × Obj)) (a : ST dd F w W μ L) (c : L.Perm (L0 ++ L2)) (m : kJ E fv = .func (.func f) #[] caps) (he : ∀ args w, (callFunc f args).run P w = .ok (.enter f args) w) (ha : ax.map (kJ E) ++ caps = args.toArray) (k : mn dd P f args W L0 K') (h : ∀ W' v μ' L1, ST dd F w W' μ' (L1 ++ L2) → lb μ μ' → Lo F w μ μ' → K' v L1 W' → K v W') : nN P E ⟨d, .call ⟨.value fv, ax, ats⟩, ty, pos, af, g⟩ W K :=
 H7 m he ha (cD k (fun _ W' ⟨v, L1, h1, i, j⟩ => ⟨v, h1, h W' v _ L1 ((a.perm c).back i) ((a.perm c).Lm W' L1) ((a.perm c).Om W' L1) j⟩))
theorem QG {K : Value → World → Prop} {α : Type} {e : TypeId} {enc : α → List Value} {k : Nat} {l : List α} {f : FuncId} {fv : Operand} {ax : Array Operand} {ats : Array TypeId} {caps : Array Value} {args : List Value} (X Y : List (Nat × Obj)) (a : ST dd F w W μ (X ++ Y)) (n : kJ E fv = .func (.func f) #[] caps) (he : ∀ args w, (callFunc f args).run P w = .ok (.enter f args) w) (ha : ax.map (kJ E) ++ caps = args.toArray) (m : lT dd P f args W e enc k l) (h : ∀ W' v μ' R, ST dd F w W' μ' (X ++ (R ++ Y)) → lb μ μ' → Lo F w μ μ' → kZ e enc k v l R → K v W') : nN P E ⟨d, .call ⟨.value fv, ax, ats⟩, ty, pos, af, g⟩ W K :=
 TU [] (X ++ Y) a (.refl _) n he ha m (fun W' v μ' L1 h1 c j i => h W' v μ' L1 (h1.perm (by rw [← aV, ← aV]; exact List.perm_append_comm.append_right Y)) c j i)
end
theorem ST.mV {w W : World} {μ : lq} {L R : List (Nat × Obj)} (h : ST dd lu w W μ L) (a : ∀ p, p ∈ R → p ∈ L) (d : (R.map (·.1)).Nodup) : sR dd [] R w W :=
 sR.MJ h.ex (fun b o c => ⟨(h.box b o (a _ c)).1, by
  rcases (h.box b o (a _ c)).2.2 with h | h
  ·exact h
  ·exact h.elim⟩) d
theorem mR {P : Program} {E : Nat → Value} {W : World} {d : Option Nat} {ty : TypeId} {pos : String} {af : Array Edge} {g : Option (Nat × Bool)} {α : Type} {e' : TypeId} {enc : α → List Value} {k : Nat} {v : Value} {l : List α} {R : List (Nat × Obj)} {x : Operand} {t e : TypeId} (a : P.underlying t = some (.slice e)) (i : kJ E x = v) (h : kZ e' enc k v l R) : mA P E ⟨d, .call ⟨.builtin .len, #[x], #[t]⟩, ty, pos, af, g⟩ W (.int .i64 l.length) W := by
 obtain ⟨A, c, rfl⟩ := h.form
 exact BR a i
section
variable {α : Type} {e : TypeId} {enc : α → List Value} {k : Nat} {v : Value} {l : List α} {R : List (Nat × Obj)}
theorem kZ.nd (h : kZ e enc k v l R) : (R.map (·.1)).Nodup := by
 rcases h with ⟨rfl, rfl, rfl⟩ | ⟨g, cap, a, rfl, rfl, _⟩ <;> simp
end
end Go.Proofs.YtbnbdigcbldfhaaGreat
namespace Go.Proofs.YtbnbdigcbldfhaaGreat
open Go.RowKit
variable {dd : Bool}
def Fa (R : List (Nat × Obj)) (k : Nat) (p : Value) (i : Nat) : Prop := ∃ g o, R = [(g, o)] ∧ p = .pointer (some ⟨g, i * k, none⟩)
section
variable {P : Program} {E : Nat → Value} {W : World} {d : Option Nat} {ty : TypeId} {pos : String} {af : Array Edge} {g : Option (Nat × Bool)}
 {F : Nat → Prop} {w : World} {μ : lq} {L : List (Nat × Obj)} {α : Type} {e' : TypeId} {enc : α → List Value} {k : Nat} {v : Value} {l : List α} {R : List (Nat × Obj)}
theorem mF {t e : TypeId} {x c : Operand} {z : IntKind} {i : Int} {x0 : α} (u : P.underlying t = some (.slice e)) (he : ∀ w, (sizeOf e).run P w = .ok k w) (y : kJ E x = v) (q : kJ E c = .int z i) (h : kZ e' enc k v l R) (n : 0 ≤ i) (s : l[i.toNat]? = some x0) :
  ∃ p, Fa R k p i.toNat ∧ ∀ W, mA P E ⟨d, .indexAddr t x c, ty, pos, af, g⟩ W p W := by
 have a : i.toNat < l.length := (bB.1 s).1
 rcases h with ⟨rfl, rfl, rfl⟩ | ⟨m, cap, j, rfl, rfl, h1, A, D, G⟩
 ·simp at a
 refine ⟨.pointer (some ⟨m, i.toNat * k, none⟩), ⟨_, _, rfl, rfl⟩, fun W => ?_⟩
 show (do pure (.value (← Instr.indexAt t (kJ E x) (kJ E c))) : Sem Next).run P W = _
 rw [y, q]
 have o : 0 ≤ i ∧ i < (l.length : Int) := ⟨n, by omega⟩
 simp [Instr.indexAt, asIntOf, aT u, he W, o, dq]
theorem Dm (h : kZ e' enc k v l R) (hk : ∀ x, (enc x).length = k) {p : Value} {i : Nat} (hp : Fa R k p i) {x0 : α} (n : l[i]? = some x0) :
  ∃ g a cap, R = [(g, .cells a e' (0, 0))] ∧ v = .slice (some ⟨g, 0, none⟩) l.length cap ∧ l.length ≤ cap ∧ cap ≤ maxLen ∧ a.size = cap * k ∧ a.toList.take (l.length * k) = (l.map enc).flatten ∧ p = .pointer (some ⟨g, i * k, none⟩) ∧ ∀ j y, (enc x0)[j]? = some y → a[i * k + j]? = some y := by
 have d : i < l.length := (bB.1 n).1
 rcases h with ⟨rfl, rfl, rfl⟩ | ⟨s, cap, a, rfl, rfl, h1, t, u, m⟩
 ·simp at d
 obtain ⟨g2, o, q, rfl⟩ := hp
 cases q
 refine ⟨s, a, cap, rfl, rfl, h1, t, u, m, rfl, fun j y w => ?_⟩
 have := za hk l i x0 n j y w
 rw [← m] at this
 have c : i * k + j < l.length * k := by
  have := (bB.1 this).1
  simp at this; omega
 rw [dD c] at this
 simpa using this
theorem oy {A : List (Nat × Obj)} (hH : rY μ A W) (d : ∀ q, q ∈ R → q ∈ A) (h : kZ e' enc k v l R) (hk : ∀ x, (enc x).length = k) {p : Value} {i : Nat} (hp : Fa R k p i) {x0 : α} (m : l[i]? = some x0) {t : TypeId} (g : ∀ w, (isAgg t).run P w = .ok true w) (j : ∀ w, (sizeOf t).run P w = .ok k w) : (Instr.loadAt t p).run P W = .ok (.agg (enc x0).toArray) W := by
 obtain ⟨n, a, cap, rfl, rfl, _, _, _, _, rfl, c⟩ := Dm h hk hp m
 exact E6 g (enc x0) (by rw [hk]; exact j) (hH.2 _ _ (d _ (aN.2 rfl))) c
theorem uU {A : List (Nat × Obj)} (hH : rY μ A W) (d : ∀ q, q ∈ R → q ∈ A) (h : kZ e' enc k v l R) (hk : ∀ x, (enc x).length = k) {p : Value} {i : Nat} (hp : Fa R k p i) {x0 : α} (j : l[i]? = some x0) {t : TypeId} {y : Value} (m : enc x0 = [y]) (g : ∀ w, (isAgg t).run P w = .ok false w) : (Instr.loadAt t p).run P W = .ok y W := by
 obtain ⟨n, a, cap, rfl, rfl, _, _, _, _, rfl, c⟩ := Dm h hk hp j
 exact ES g (hH.2 _ _ (d _ (aN.2 rfl))) (c 0 y (by rw [m]; rfl))
theorem IR (hk : ∀ x, (enc x).length = k) : ∀ (l : List α) (i : Nat) (y : α), i < l.length → ((l.set i y).map enc).flatten = (l.map enc).flatten.take (i * k) ++ enc y ++ (l.map enc).flatten.drop (i * k + k)
 | [], i, y, h => by simp at h
 | z :: l, 0, y, h => by
  simp [hk]
 | z :: l, i + 1, y, h => by
  have := IR hk l i y (by simpa using h)
  simp only [List.set_cons_succ, bE, dv, this]
  have h1 : (i + 1) * k = (enc z).length + i * k := by rw [hk, cC]; omega
  rw [h1, iV, eZ, List.drop_length_add_append]
  simp
theorem QM {K : Value → World → Prop} (X : List (Nat × Obj)) {Y : List (Nat × Obj)} {t : TypeId} {x y : Operand} {p u : Value} {i : Nat} {x0 x1 : α} (j : ST dd F w W μ (X ++ (R ++ Y))) (h : kZ e' enc k v l R) (hk : ∀ x, (enc x).length = k) (h1 : ∀ x, ∀ u ∈ enc x, u.oneCell' = true) (U : kJ E x = p) (Z : kJ E y = u) (hu : u.cells = (enc x1).toArray) (hp : Fa R k p i) (D : l[i]? = some x0) (Q : ∀ w, (sizeOf t).run P w = .ok k w) (M : ∀ W' R', ST dd F w W' μ (X ++ (R' ++ Y)) → kZ e' enc k v (l.set i x1) R' → K undef W') : nN P E ⟨d, .store t x y, ty, pos, af, g⟩ W K := by
 have s : i < l.length := (bB.1 D).1
 obtain ⟨n, a, cap, rfl, rfl, A, J, q, L, rfl, h6⟩ := Dm h hk hp D
 have hle : i * k + k ≤ cap * k := by
  have : (i + 1) * k ≤ cap * k := cn _ (by omega)
  rwa [cC, ko] at this
 have m : i * k + k ≤ l.length * k := by
  have : (i + 1) * k ≤ l.length * k := cn _ (by omega)
  rwa [cC, ko] at this
 have c : u.cells.size = k := by rw [hu]; simp [hk]
 have T := (j.box n (.cells a e' (0, 0)) (by simp)).1
 have hlen : l.length * k ≤ cap * k := cn _ A
 refine .inr (.inl ⟨W.setRow n (a.toList.take (i * k) ++ (enc x1) ++ a.toList.drop (i * k + k)).toArray, ?_, M _ [(n, .cells (a.toList.take (i * k) ++ (enc x1) ++ a.toList.drop (i * k + k)).toArray e' (0, 0))] (j.store _) (.inr ⟨n, cap, _, by simp, rfl, by simpa using A, J, ?_, ?_⟩)⟩)
 ·show (do Instr.storeAt t (kJ E x) (kJ E y); pure .skip : Sem Next).run P W = _
  rw [U, Z]
  have := Fc P (off := i * k) u (by rw [c]; exact Q) (by rw [hu]; simpa using h1 x1) T (by rw [c, q]; exact hle)
  simp only [cd, this, bN, db, c]
  rw [hu]
 ·show ((a.toList.take (i * k) ++ (enc x1) ++ a.toList.drop (i * k + k)).toArray).size = _
  have o : a.toList.length = cap * k := by simpa using q
  rw [cN, aI, aI, cz, dt, hk, o, cP (by omega)]; omega
 ·rw [iM, IR hk l i x1 s, ← L]
  have G : (a.toList.take (l.length * k)).take (i * k) = a.toList.take (i * k) := by rw [eK]; congr 1; omega
  have I : (a.toList.take (l.length * k)).drop (i * k + k) = (a.toList.drop (i * k + k)).take (l.length * k - (i * k + k)) := by rw [gA]
  rw [G, I]
  show List.take (l.length * k) (a.toList.take (i * k) ++ enc x1 ++ a.toList.drop (i * k + k)) = _
  have o : a.toList.length = cap * k := by simpa using q
  have z : (a.toList.take (i * k) ++ enc x1).length = i * k + k := by rw [aI, cz, hk, o, cP (by omega)]
  rw [eF, cV (by rw [z]; exact m), z]
theorem En (hk : ∀ x, (enc x).length = k) : ∀ (l : List α) (i : Nat), i ≤ l.length → ((l.take i).map enc).flatten = (l.map enc).flatten.take (i * k)
 | [], i, h => by simp
 | z :: l, 0, h => by simp
 | z :: l, i + 1, h => by
  have := En hk l i (by simpa using h)
  simp only [List.take_succ_cons, bE, dv, this]
  rw [show (i + 1) * k = (enc z).length + i * k by rw [hk, cC]; omega, iV]
theorem um {t e : TypeId} {x ih : Operand} {I : IntKind} {i : Int} (n : P.underlying t = some (.slice e)) (he : ∀ w, (sizeOf e).run P w = .ok k w) (o : kJ E x = v) (m : kJ E ih = .int I i) (h : kZ e' enc k v l R) (hk : ∀ x, (enc x).length = k) (u : 0 ≤ i) (G : i ≤ l.length) :
  ∃ q, kZ e' enc k q (l.take i.toNat) R ∧ ∀ W, mA P E ⟨d, .slice t x none (some ih) none, ty, pos, af, g⟩ W q W := by
 have a : i.toNat ≤ l.length := by omega
 rcases h with ⟨rfl, rfl, rfl⟩ | ⟨j, cap, c, rfl, rfl, h1, y, z, A⟩
 ·have : i = 0 := by simp at G; omega
  subst this
  refine ⟨.slice none 0 0, .inl ⟨rfl, by simp, rfl⟩, fun W => ?_⟩
  show (do pure (.value (← Instr.sliceAt t (kJ E x) none (some (kJ E ih)) none)) : Sem Next).run P W = _
  rw [o, m]
  simp [Instr.sliceAt, Instr.slice, Instr.sliceBounds, Instr.sliceBound, asIntOf, aT n, he W]
 ·refine ⟨.slice (some ⟨j, 0, none⟩) (l.take i.toNat).length cap, .inr ⟨j, cap, c, rfl, rfl, by simp; omega, y, z, ?_⟩, fun W => ?_⟩
  ·have s : (l.take i.toNat).length = i.toNat := by rw [cz]; omega
   have hle : i.toNat * k ≤ l.length * k := cn _ a
   rw [s, En hk l i.toNat a, ← A, eK, cP hle]
  ·show (do pure (.value (← Instr.sliceAt t (kJ E x) none (some (kJ E ih)) none)) : Sem Next).run P W = _
   rw [o, m]
   have D : 0 ≤ i ∧ i ≤ (cap : Int) := ⟨u, by omega⟩
   simp [Instr.sliceAt, Instr.slice, Instr.sliceBounds, Instr.sliceBound, asIntOf, aT n, he W, D, dq]
   omega
theorem BY {z : rH α} {t e : TypeId} {x s : Operand} {ik : IntKind} {i : Int} (ht : P.underlying t = some (.slice e)) (he : ∀ w, (sizeOf e).run P w = .ok k w) (n : kJ E x = v) (R : kJ E s = .int ik i) (h : Sl z k μ v l) (D : 0 ≤ i) (U : i ≤ l.length) :
  ∃ u, (Sl z k μ u (l.drop i.toNat) ∧ ∀ B, Fr B v → Fr B u) ∧ ∀ W, mA P E ⟨d, .slice t x (some s) none none, ty, pos, af, g⟩ W u W := by
 obtain ⟨A, c, rfl, h2, h3, G⟩ := h
 have Y : i.toNat ≤ l.length := by omega
 refine ⟨.slice (if c = i.toNat then A else A.map (·.add (i.toNat * k))) (l.drop i.toNat).length (c - i.toNat), ⟨⟨_, _, rfl, by simp; omega, by omega, fun hp => ?_⟩, fun B Q b m => ?_⟩, fun W => ?_⟩
 ·have Z : i.toNat < l.length := by simp at hp; omega
  obtain ⟨b, off, cs, T, fr, rfl, I, J⟩ := G (by omega)
  refine ⟨b, off + i.toNat * k, cs, T, fr, ?_, I, fun j x n => ?_⟩
  ·rw [aJ (by omega)]; simp [dq]
  ·rw [dz] at n
   obtain ⟨ys, L, M, o⟩ := J _ x n
   refine ⟨ys, L, M, fun q y hy => ?_⟩
   have := o q y hy
   rw [cC] at this
   rw [show off + i.toNat * k + j * k + q = off + (i.toNat * k + j * k) + q by omega]
   exact this
 ·refine Q b ?_
  cases A with
  | none => simp [Value.ownBlock] at m
  | some a =>
   split at m
   ·exact m
   ·obtain ⟨b', o', s'⟩ := a
    cases s' <;> simp [Value.ownBlock, Addr.add] at m ⊢ <;> split at m <;> exact m
 ·show (do pure (.value (← Instr.sliceAt t (kJ E x) (some (kJ E s)) none none)) : Sem Next).run P W = _
  rw [n, R]
  have m : 0 ≤ i ∧ i ≤ (l.length : Int) := ⟨D, U⟩
  simp [Instr.sliceAt, Instr.slice, Instr.sliceBounds, Instr.sliceBound, asIntOf, aT ht, he W, m]
end
end Go.Proofs.YtbnbdigcbldfhaaGreat
namespace Go.Proofs.YtbnbdigcbldfhaaGreat
open Go.RowKit
variable {dd : Bool}
section
variable {α : Type} {e : TypeId} {enc : α → List Value} {k : Nat} {v : Value} {l : List α} {R : List (Nat × Obj)} {μ : lq}
theorem kZ.one (h : kZ e enc k v l R) : v.oneCell' = true := by obtain ⟨A, c, rfl⟩ := h.form; rfl
theorem Sl.one {a : rH α} (h : Sl a k μ v l) : v.oneCell' = true := by obtain ⟨A, c, rfl⟩ := h.form; rfl
theorem Sl.isNil {d : rH α} {n c : Nat} (h : Sl d k μ (.slice none n c) l) : l = [] := by
 obtain ⟨A, j, h1, m, o, g⟩ := h
 cases h1
 rcases dI l.length with a | a
 ·exact dH.1 a
 ·obtain ⟨b, off, cs, T, fr, i, _⟩ := g a
  cases i
theorem kZ.isNil {n c : Nat} (h : kZ e enc k (.slice none n c) l R) : l = [] := by
 rcases h with ⟨h1, rfl, rfl⟩ | ⟨g, cap, a, h1, _⟩
 ·rfl
 ·cases h1
theorem ST.Yu {w W : World} {μ : lq} {L1 L2 : List (Nat × Obj)} (h : ST dd lu w W μ (L1 ++ L2)) : sR dd [] L1 w W :=
 sR.MJ h.ex (fun b o a => ⟨(h.box b o (bF _ a)).1, by
  rcases (h.box b o (bF _ a)).2.2 with h | h
  ·exact h
  ·exact h.elim⟩) (by have := h.nd; rw [cq] at this; exact (bO.1 this).1)
theorem ST.YC {w W : World} {μ : lq} {L0 L1 L2 : List (Nat × Obj)} (h : ST dd (keys L0) w W μ (L1 ++ L2)) : sR dd L0 L1 w W :=
 ⟨⟨h.os, h.tape, h.output, h.drawn, h.size, h.ng⟩, fun b o a => ⟨(h.box b o (bF _ a)).1, (h.box b o (bF _ a)).2.2⟩, by have := h.nd; rw [cq] at this; exact (bO.1 this).1⟩
end
end Go.Proofs.YtbnbdigcbldfhaaGreat
namespace Go.Proofs.YtbnbdigcbldfhaaGreat
open Go.RowKit
variable {dd : Bool}
def mo {κ β : Type} (beq : κ → κ → Bool) (l : List (κ × β)) (k : κ) : Option β := (l.find? (fun p => beq k p.1)).map (·.2)
def ow {κ β : Type} (beq : κ → κ → Bool) (l : List (κ × β)) (k : κ) (v : β) : List (κ × β) :=
 match l.findIdx? (fun p => beq k p.1) with
 | some i => l.set i (k, v)
 | none => l ++ [(k, v)]
structure xo {κ β : Type} (kenc : κ → Value) (vf : β → Value) (l : List (κ × β)) (es : Array MapEntry) (clock : Nat) : Prop where
 Il : es.toList.map (fun e => (e.key, e.val)) = l.map (fun p => (kenc p.1, vf p.2))
 born : es.toList.Pairwise (fun a b => a.born < b.born)
 lt : ∀ e ∈ es.toList, e.born < clock
def mx {κ β : Type} (kenc : κ → Value) (vf : β → Value) (v : Value) (l : List (κ × β)) (R : List (Nat × Obj)) : Prop :=
 ∃ m es clock, v = .map (some m) ∧ R = [(m, .map es clock)] ∧ xo kenc vf l es clock
def xp {κ β : Type} (kenc : κ → Value) (vf : β → Value) (μ : lq) (v : Value) (l : List (κ × β)) : Prop :=
 (v = .map none ∧ l = []) ∨ ∃ m es clock, v = .map (some m) ∧ μ m = some (.map es clock) ∧ xo kenc vf l es clock
theorem xp.mono {κ β : Type} {kenc : κ → Value} {vf : β → Value} {μ μ' : lq} {v : Value} {l : List (κ × β)} (h : xp kenc vf μ v l) (d : lb μ μ') : xp kenc vf μ' v l := by
 rcases h with h | ⟨m, es, clock, h1, a, c⟩
 ·exact .inl h
 ·exact .inr ⟨m, es, clock, h1, d _ _ a, c⟩
theorem mx.at {κ β : Type} {kenc : κ → Value} {vf : β → Value} {μ : lq} {v : Value} {l : List (κ × β)} {R : List (Nat × Obj)} (h : mx kenc vf v l R) (c : ∀ b o, (b, o) ∈ R → μ b = some o) : xp kenc vf μ v l := by
 obtain ⟨m, es, clock, rfl, rfl, a⟩ := h
 exact .inr ⟨m, es, clock, rfl, c _ _ (aN.2 rfl), a⟩
structure pC {κ : Type} (P : Program) (kt : TypeId) (kenc : κ → Value) (beq : κ → κ → Bool) : Prop where
 check : ∀ b k W, (Instr.checkKey b 10000 kt (kenc k)).run P W = .ok () W
 find : ∀ (k : κ) (l : List κ) (es : List MapEntry), es.map (·.key) = l.map kenc → ∀ W, (Instr.findKey kt (kenc k) es).run P W = .ok ((l.findIdx? (fun x => beq k x)).bind fun i => (es[i]?).map fun e => (i, e.val)) W
 eq : ∀ k x, beq k x = true → kenc x = kenc k
 bits : ∀ k, Instr.sameBits 10000 (kenc k) (kenc k) = true
section
variable {P : Program} {W : World} {κ : Type} {kt : TypeId} {kenc : κ → Value} {beq : κ → κ → Bool}
theorem Ft (a : ∀ x y W, (Op.equal kt (kenc x) (kenc y)).run P W = .ok (beq x y) W) (k : κ) : ∀ (l : List κ) (es : List MapEntry) (i : Nat), es.map (·.key) = l.map kenc →
  (Instr.findAsking kt (kenc k) es i).run P W = .ok ((l.findIdx? (fun x => beq k x)).bind fun j => (es[j]?).map fun e => (i + j, e.val)) W
 | [], [], i, h => by simp [Instr.findAsking]
 | [], _ :: _, i, h => by simp at h
 | _ :: _, [], i, h => by simp at h
 | x :: l, e :: es, i, h => by
  simp only [bE, bG] at h
  obtain ⟨h1, c⟩ := h
  simp only [Instr.findAsking, cd, h1, a, bN, eO]
  cases d : beq k x with
  | true => simp
  | false =>
   simp only [aB, aS]
   rw [Ft a k l es (i + 1) c]
   cases l.findIdx? (fun x => beq k x) with
   | none => rfl
   | some j => simp [eZ, jY 1 j]
theorem OS {kind : TypeDesc} (hk : ∀ a b, Instr.sameNow kind (.agg a) b = none) (a : Array Value) : ∀ (es : List MapEntry) (i : Nat), Instr.findNow kind (.agg a) es i = if es = [] then some none else none
 | [], i => by simp [Instr.findNow]
 | e :: es, i => by simp [Instr.findNow, hk]
theorem pC.struct {enc : κ → List Value} {i : Array Field} (o : P.underlying kt = some (.struct i)) (n : ∀ d x y W, (Op.equalIn (d + 10) kt (.agg (enc x).toArray) (.agg (enc y).toArray)).run P W = .ok (beq x y) W) (m : ∀ b k W, (Instr.checkKey b 10000 kt (.agg (enc k).toArray)).run P W = .ok () W) (he : ∀ k x, beq k x = true → x = k) (j : ∀ k, Instr.sameBits 10000 (.agg (enc k).toArray) (.agg (enc k).toArray) = true) : pC P kt (fun x => .agg (enc x).toArray) beq where
 check := m
 find := fun k l es h W => by
  have c : ∀ x y W, (Op.equal kt (.agg (enc x).toArray) (.agg (enc y).toArray)).run P W = .ok (beq x y) W := fun x y W => n 9990 x y W
  simp only [Instr.findKey, cd, aT o, bN]
  rw [OS (fun a b => by cases b <;> rfl)]
  by_cases g : es = []
  ·subst g
   have : l = [] := by simpa using h.symm
   subst this
   simp
  ·rw [aJ g]
   dsimp only
   rw [show Instr.findAsking kt (.agg (enc k).toArray) es = Instr.findAsking kt (.agg (enc k).toArray) es 0 from rfl, Ft c k l es 0 h]
   simp
 eq := fun k x h => by rw [he k x h]
 bits := j
theorem mO {a b : ByteArray} : mh a b = true ↔ a = b := by
 unfold mh
 rw [fc, fc]
 constructor
 ·intro h
  have h1 : a.data.toList = b.data.toList := by simpa using h
  exact jK (Array.toList_inj.1 h1)
 ·rintro rfl
  simp
theorem Ea (a b : ByteArray) : (a == b) = mh a b := by
 rw [bH, mO]
 constructor
 ·intro h
  have h1 : (a.data == b.data) = true := h
  exact jK (by simpa using h1)
 ·rintro rfl
  show (a.data == a.data) = true
  simp
theorem Fv (k : ByteArray) : ∀ (l : List ByteArray) (es : List MapEntry) (i : Nat), es.map (·.key) = l.map Value.string →
  Instr.findNow .string (.string k) es i = some ((l.findIdx? (fun x => mh k x)).bind fun j => (es[j]?).map fun e => (i + j, e.val))
 | [], [], i, h => by simp [Instr.findNow]
 | [], _ :: _, i, h => by simp at h
 | _ :: _, [], i, h => by simp at h
 | x :: l, e :: es, i, h => by
  simp only [bE, bG] at h
  obtain ⟨h1, a⟩ := h
  simp only [Instr.findNow, h1, Instr.sameNow, Ea, eO]
  cases c : mh k x with
  | true => simp
  | false =>
   simp only [aB, aS]
   rw [Fv k l es (i + 1) a]
   cases l.findIdx? (fun x => mh k x) with
   | none => rfl
   | some j => simp [eZ, jY 1 j]
theorem uC (a : P.underlying kt = some .string) (n : Nat) (b : Bool) (k : ByteArray) (W : World) : (Instr.checkKey b (n + 1) kt (.string k)).run P W = .ok () W := by
 simp [Instr.checkKey, aT a]
theorem pC.string (a : P.underlying kt = some .string) : pC P kt Value.string mh where
 check := fun b k W => uC a 9999 b k W
 find := fun k l es h W => by
  simp only [Instr.findKey, cd, aT a, bN]
  have := Fv k l es 0 h
  rw [this]
  simp
 eq := fun k x h => by rw [mO.1 h]
 bits := fun k => by simp only [Instr.sameBits]; rw [Ea]; exact mO.2 rfl
variable {β : Type} {vf : β → Value} {E : Nat → Value} {d : Option Nat} {ty : TypeId} {pos : String} {af : Array Edge} {g : Option (Nat × Bool)} {F : Nat → Prop} {w : World} {μ : lq} {L : List (Nat × Obj)}
theorem xo.keys {l : List (κ × β)} {es : Array MapEntry} {clock : Nat} (h : xo kenc vf l es clock) : es.toList.map (·.key) = (l.map (·.1)).map kenc := by
 have := aU (List.map Prod.fst) h.Il
 simpa [gB] using this
theorem xo.length {l : List (κ × β)} {es : Array MapEntry} {clock : Nat} (h : xo kenc vf l es clock) : es.size = l.length := by
 have := aU List.length h.Il
 simpa using this
theorem xo.get {l : List (κ × β)} {es : Array MapEntry} {clock : Nat} (h : xo kenc vf l es clock) (k : κ) :
  (((l.map (·.1)).findIdx? (fun x => beq k x)).bind fun i => (es.toList[i]?).map fun e => (i, e.val)) = (l.findIdx? (fun p => beq k p.1)).bind fun i => (l[i]?).map fun p => (i, vf p.2) := by
 rw [gC]
 show ((l.findIdx? (fun p => beq k p.1)).bind _) = _
 congr 1
 funext i
 have := aU (fun q => q[i]?) h.Il
 simp only [dw] at this
 cases h1 : es.toList[i]? with
 | none => rw [h1] at this; cases a : l[i]? with
  | none => rfl
  | some p => rw [a] at this; cases this
 | some e => rw [h1] at this; cases a : l[i]? with
  | none => rw [a] at this; cases this
  | some p => rw [a] at this; simp at this; simp [this.2]
theorem AG (l : List (κ × β)) (k : κ) : mo beq l k = (l.findIdx? (fun p => beq k p.1)).bind fun i => (l[i]?).map (·.2) := by
 induction l with
 | nil => rfl
 | cons p l ih =>
  simp only [mo, iN, eO] at ih ⊢
  cases beq k p.1 with
  | true => rfl
  | false =>
   simp only [aB, aS]
   rw [ih]
   cases l.findIdx? (fun p => beq k p.1) <;> simp
theorem M6 {t e : TypeId} {m x : Operand} {s z : Value} {l : List (κ × β)} {k : κ} (K : pC P kt kenc beq) (o : P.underlying t = some (.map kt e)) (c : ∀ w, (zeroValue e).run P w = .ok z w) (hm : kJ E m = s) (A : kJ E x = kenc k) (v : xp kenc vf (hp W) s l) :
  mA P E ⟨d, .lookup t m x false, ty, pos, af, g⟩ W (((mo beq l k).map vf).getD z) W := by
 show (do pure (.value (← Instr.lookup t (kJ E m) (kJ E x) false)) : Sem Next).run P W = _
 rw [hm, A]
 rcases v with ⟨rfl, rfl⟩ | ⟨q, es, clock, rfl, y, h⟩
 ·have := K.find k [] [] rfl W
  simp [Instr.lookup, aT o, K.check, this, c W, mo]
 ·have a : W.heap[q]? = some (.map es clock) := y
  have u : (getObj q : Sem Obj).run P W = .ok (.map es clock) W := by simp [getObj, Sem.run, a]
  have j := K.find k _ _ h.keys W
  rw [h.get k] at j
  simp only [Instr.lookup, cd, aT o, bN, u, db, K.check, j, AG]
  cases D : l.findIdx? (fun p => beq k p.1) with
  | none => simp [c W]
  | some i =>
   cases n : l[i]? with
   | none => simp [n, c W]
   | some p => simp [n]
theorem ub {l : List (κ × β)} {k : κ} {i : Nat} (h : l.findIdx? (fun p => beq k p.1) = some i) : ∃ p, l[i]? = some p ∧ beq k p.1 = true := by
 rw [dS] at h
 obtain ⟨h1, a, _⟩ := h
 exact ⟨l[i], cj h1, a⟩
theorem xo.put {l : List (κ × β)} {es : Array MapEntry} {clock : Nat} (h : xo kenc vf l es clock) (k : κ) (v : β) :
  match l.findIdx? (fun p => beq k p.1) with
  | some i => xo kenc vf (l.set i (k, v)) (es.modify i fun e => { e with key := kenc k, val := vf v }) clock
  | none => xo kenc vf (l ++ [(k, v)]) (es.push { key := kenc k, val := vf v, born := clock }) (clock + 1) := by
 cases o : l.findIdx? (fun p => beq k p.1) with
 | none =>
  refine ⟨?_, ?_, ?_⟩
  ·simp [h.Il]
  ·simp only [Array.toList_push, dy]
   exact ⟨h.born, by simp, fun a ha b n => by simp at n; subst n; exact h.lt a ha⟩
  ·intro e he
   simp at he
   rcases he with he | rfl
   ·exact Nat.lt_succ_of_lt (h.lt e (by simpa using he))
   ·exact bT _
 | some i =>
  obtain ⟨p, hp, _⟩ := ub o
  have u : i < l.length := (bB.1 hp).1
  have c : (es.modify i fun e => { e with key := kenc k, val := vf v }).toList.map (·.born) = es.toList.map (·.born) := by
   apply dG
   intro j
   simp only [dw, df, dL]
   split
   ·cases es[j]? <;> simp
   ·rfl
  refine ⟨?_, ?_, ?_⟩
  ·apply dG
   intro j
   have g := aU (fun q => q[j]?) h.Il
   simp only [dw, df] at g
   simp only [dw, df, dL, eU]
   by_cases d : i = j
   ·subst d
    simp only [bA]
    rw [aK u]
    cases s : es[i]? with
    | none => rw [s, hp] at g; cases g
    | some e => rfl
   ·rw [aJ d, aJ d]; exact g
  ·have := h.born
   rw [← fG (f := fun e : MapEntry => e.born) (R := (· < ·))] at this ⊢
   rw [c]; exact this
  ·intro e he
   have : e.born ∈ es.toList.map (·.born) := by rw [← c]; exact bI.2 ⟨e, he, rfl⟩
   obtain ⟨e', m, t⟩ := bI.1 this
   rw [← t]; exact h.lt e' m
theorem A0 {W : World} {r : Nat} {es : Array MapEntry} {c : Nat} (d : W.heap[r]? = some (.map es c)) (a : Obj) : (setObj r a).run P W = .ok () (ChangeMaps.setBlock W r a) := by
 simp [setObj, Sem.run, d, ChangeMaps.setBlock]
theorem ST.setBlock {A B : List (Nat × Obj)} {b : Nat} {o : Obj} (h : ST dd F w W μ (A ++ (b, o) :: B)) (c : Obj) : ST dd F w (ChangeMaps.setBlock W b c) μ (A ++ (b, c) :: B) := by
 have d := (h.box b o (by simp)).1
 have a := oT d
 refine h.put ⟨rfl, rfl, rfl, bD _, by simp [ChangeMaps.setBlock]⟩ (fun k hk => ?_) ?_
 ·simp only [ChangeMaps.setBlock]
  rw [Array.getElem?_setIfInBounds_ne (fun e => hk e.symm)]
 ·simp only [ChangeMaps.setBlock]
  rw [Array.getElem?_setIfInBounds_self_of_lt a]
theorem BX {I : Value → World → Prop} (X : List (Nat × Obj)) {Y R : List (Nat × Obj)} {t e : TypeId} {m x y : Operand} {G : Value} {l : List (κ × β)} {k : κ} {v : β} (K : pC P kt kenc beq) (M : P.underlying t = some (.map kt e)) (n : ST dd F w W μ (X ++ (R ++ Y))) (h : mx kenc vf G l R) (hm : kJ E m = G) (T : kJ E x = kenc k) (U : kJ E y = vf v) (L : ∀ W' R', ST dd F w W' μ (X ++ (R' ++ Y)) → mx kenc vf G (ow beq l k v) R' → I undef W') : nN P E ⟨d, .mapUpdate t m x y, ty, pos, af, g⟩ W I := by
 obtain ⟨c, es, clock, rfl, rfl, z⟩ := h
 have A : W.heap[c]? = some (.map es clock) := (n.box c (.map es clock) (by simp)).1
 have J : (getObj c : Sem Obj).run P W = .ok (.map es clock) W := by simp [getObj, Sem.run, A]
 have o := K.find k _ _ z.keys W
 rw [z.get k] at o
 have a := z.put (beq := beq) k v
 have j : ∀ W', (Instr.mapUpdate t (.map (some c)) (kenc k) (vf v)).run P W = .ok () W' → (execOp (kJ E) ⟨d, .mapUpdate t m x y, ty, pos, af, g⟩).run P W = .ok .skip W' := by
  intro W' Q
  show (do Instr.mapUpdate t (kJ E m) (kJ E x) (kJ E y); pure .skip : Sem Next).run P W = _
  rw [hm, T, U]
  simp [Q]
 cases s : l.findIdx? (fun p => beq k p.1) with
 | none =>
  rw [s] at o a
  refine .inr (.inl ⟨ChangeMaps.setBlock W c (.map (es.push { key := kenc k, val := vf v, born := clock }) (clock + 1)), j _ ?_, L _ [(c, _)] (n.setBlock _) ⟨c, _, _, rfl, rfl, ?_⟩⟩)
  ·simp [Instr.mapUpdate, aT M, J, K.check, o, A0 A]
  ·rw [ow, s]; exact a
 | some i =>
  obtain ⟨p, hp, D⟩ := ub s
  rw [s] at o a
  simp only [aA, hp, dC] at o
  have u : ((es[i]?).map (·.key)).getD (kenc k) = kenc k := by
   have := aU (fun q => q[i]?) z.keys
   simp only [dw, hp, dC, df] at this
   rw [this]
   simp [K.eq k p.1 D]
  refine .inr (.inl ⟨ChangeMaps.setBlock W c (.map (es.modify i fun e => { e with key := kenc k, val := vf v }) clock), j _ ?_, L _ [(c, _)] (n.setBlock _) ⟨c, _, _, rfl, rfl, ?_⟩⟩)
  ·simp only [Instr.mapUpdate, cd, aT M, J, K.check, o, bN, u, Instr.keyThatStays, K.bits, bA, db]
   exact A0 A _
  ·rw [ow, s]; exact a
theorem Ee {c : Value → World → Prop} {t : TypeId} (kenc : κ → Value) (vf : β → Value) (a : ST dd F w W μ L) (h : ∀ W' v R, ST dd F w W' μ (R ++ L) → mx kenc vf v [] R → c v W') : nN P E ⟨d, .makeMap t none, ty, pos, af, g⟩ W c :=
 .inl ⟨.map (some W.heap.size), W.alloc (.map #[] 0), by
   show (do pure (.value (← Instr.makeMap t none)) : Sem Next).run P W = _
   simp [Instr.makeMap, newObj, Sem.run], h _ _ [(W.heap.size, .map #[] 0)] (a.alloc _) ⟨_, _, _, rfl, rfl, ⟨rfl, by simp, by simp⟩⟩⟩
end
end Go.Proofs.YtbnbdigcbldfhaaGreat
namespace Go.Proofs.YtbnbdigcbldfhaaGreat
open Go.RowKit
variable {dd : Bool}
open Classical in
noncomputable def HN {α β : Type} (l : List α) (f : List α → Option β) : Option β :=
 if h : ∃ r, ∀ o, o.Perm l → f o = some r then some h.choose else none
theorem Jt {α β : Type} {l : List α} {f : List α → Option β} {r : β} (h : ∀ o, o.Perm l → f o = some r) : HN l f = some r := by
 have a : ∃ r, ∀ o, o.Perm l → f o = some r := ⟨r, h⟩
 unfold HN
 rw [dif_pos a]
 have h1 := a.choose_spec l (.refl l)
 rw [h l (.refl l)] at h1
 exact h1.symm
end Go.Proofs.YtbnbdigcbldfhaaGreat
namespace Go.Proofs.YtbnbdigcbldfhaaGreat
open Go.RowKit
variable {dd : Bool}
def II {α β : Type} (P : Program) (fv : Value) (μ : lq) (a : α → List Value) (c : β → Value) (pm : α → Option β) : Prop :=
 ∃ f caps, fv = .func (.func f) #[] caps ∧ (∀ args w, (callFunc f args).run P w = .ok (.enter f args) w) ∧ ∀ W x r, lb μ (hp W) → pm x = some r → lg true P f (a x ++ caps.toList) W (c r)
def tu {α β : Type} (P : Program) (fv : Value) (μ : lq) (a : α → List Value) (c : β → Value) (pm : α → Option β) : Prop :=
 ∃ f first caps, fv = .func (.func f) first caps ∧ (∀ args w, (callFunc f args).run P w = .ok (.enter f args) w) ∧ ∀ W x r, lb μ (hp W) → pm x = some r → lg false P f (first.toList ++ (a x ++ caps.toList)) W (c r)
theorem tu.form {α β : Type} {P : Program} {fv : Value} {μ : lq} {c : α → List Value} {d : β → Value} {pm : α → Option β} (h : tu P fv μ c d pm) : ∃ f a b, fv = .func f a b := let ⟨f, a, b, h, _⟩ := h; ⟨_, a, b, h⟩
section
variable {P : Program} {W : World} {E : Nat → Value} {d : Option Nat} {ty : TypeId} {pos : String} {af : Array Edge} {g : Option (Nat × Bool)} {F : Nat → Prop} {w : World} {μ μ0 : lq} {L : List (Nat × Obj)}
theorem tu.mono {α β : Type} {fv : Value} {a : α → List Value} {c : β → Value} {pm : α → Option β} (h : tu P fv μ a c pm) (i : lb μ μ0) : tu P fv μ0 a c pm := by
 obtain ⟨f, first, caps, h1, d, g⟩ := h
 exact ⟨f, first, caps, h1, d, fun W x r h => g W x r (i.trans h)⟩
theorem Bq {α β : Type} {K : Value → World → Prop} {fv : Value} {c : α → List Value} {k : β → Value} {pm : α → Option β} {i : Operand} {ax : Array Operand} {ats : Array TypeId} (x : α) {r : β} (a : ST false F w W μ L) (s : tu P fv μ0 c k pm) (u : lb μ0 μ) (t : kJ E i = fv) (ha : ax.map (kJ E) ++ (#[] : Array Value) = (c x).toArray) (hm : pm x = some r) (h : ∀ W', ST false F w W' μ L → K (k r) W') : nN P E ⟨d, .call ⟨.value i, ax, ats⟩, ty, pos, af, g⟩ W K := by
 obtain ⟨f, first, caps, rfl, m, n⟩ := s
 have j : ax.map (kJ E) = (c x).toArray := by simpa using ha
 refine .inr (.inr ⟨f, (first.toList ++ (c x ++ caps.toList)).toArray, ?_, cD (n W x r (u.trans a.kN) hm) (fun _ _ ⟨o, q⟩ => ⟨_, o, h _ (a.Ia q)⟩)⟩)
 show (do let d ← resolve (kJ E) ⟨.value i, ax, ats⟩ ty; invoke d.target d.args : Sem Next).run P W = _
 simp only [resolve, t, Deferred.ofValue, cd, db, bN, invoke, j, m]
 congr 2
 simp
end
end Go.Proofs.YtbnbdigcbldfhaaGreat
namespace Go.Proofs.YtbnbdigcbldfhaaGreat
open Go.RowKit
variable {dd : Bool}
def Cw (A : List (Nat × Obj)) : lq := fun b => (A.find? (fun p => p.1 == b)).map (·.2)
theorem wW {A : List (Nat × Obj)} {W : World} (h : ∀ b o, (b, o) ∈ A → W.heap[b]? = some o) : ∀ b o, Cw A b = some o → W.heap[b]? = some o := fun b o a => by
 unfold Cw at a
 cases c : A.find? (fun p => p.1 == b) with
 | none => rw [c] at a; cases a
 | some p =>
  rw [c] at a
  cases a
  have h1 := eQ c
  have d := iO c
  simp at d
  subst d
  exact h _ _ h1
theorem At.of {M : lq} {b : Nat} {cs : Array Value} {T : TypeId} {fr : Nat × Nat} (h : M b = some (.cells cs T fr)) (ys : List Value) (c : cs.toList = ys) : At M (.pointer (some ⟨b, 0, none⟩)) ys :=
 ⟨b, 0, cs, T, fr, rfl, h, fun j y a => by subst c; simpa using a⟩
section
variable {F : Nat → Prop} {w W W' : World} {μ μ' : lq} {L L0 L1 L2 : List (Nat × Obj)}
theorem ST.KT (h : ST dd F w W μ L) (a : L.Perm (L0 ++ L2)) : ∀ b o, (b, o) ∈ L2 → sS W L0 b = some o := fun b o c => by
 have h1 := (h.perm a).at_ (cy _ c)
 unfold sS
 rw [aJ (H9 (h.perm a).nd c)]
 exact h1
theorem ST.held (h : ST dd F w W μ L) (a : L.Perm (L0 ++ L2)) : E1 L0 W := fun b o c => ((h.perm a).box b o (bF _ c)).1
theorem ST.TE (h : ST dd F w W μ L) (a : L.Perm (L0 ++ L2)) : (L0.map (·.1)).Nodup := by
 have := (h.perm a).nd
 rw [cq] at this
 exact (bO.1 this).1
theorem ST.Uc (h : ST dd F w W μ L) (a : L.Perm (L0 ++ L2)) : lb μ (sS W L0) := (h.perm a).ma (fun _ hp => bF _ hp)
end
section
variable {P : Program} {E : Nat → Value} {W : World} {d : Option Nat} {ty : TypeId} {pos : String} {af : Array Edge} {g : Option (Nat × Bool)}
 {F : Nat → Prop} {w : World} {μ : lq} {L : List (Nat × Obj)}
theorem Vx {K : Value → World → Prop} {K' : Value → List (Nat × Obj) → World → Prop} {f : FuncId} {fv : Operand} {ax : Array Operand} {ats : Array TypeId} {caps : Array Value} {args : List Value} (L0 L2 : List (Nat × Obj)) (a : ST dd F w W μ L) (c : L.Perm (L0 ++ L2)) (n : kJ E fv = .func (.func f) #[] caps) (he : ∀ args w, (callFunc f args).run P w = .ok (.enter f args) w) (ha : ax.map (kJ E) ++ (#[] : Array Value) = args.toArray) (m : E1 L0 W → (L0.map (·.1)).Nodup → lb μ (sS W L0) → (∀ b o, (b, o) ∈ L2 → sS W L0 b = some o) → mn dd P f (args ++ caps.toList) W L0 K') (h : ∀ W' v μ' L1, ST dd F w W' μ' (L1 ++ L2) → lb μ μ' → Lo F w μ μ' → (∀ b, W.heap.size ≤ b → ∀ o, sS W' L1 b = some o → μ' b = some o) → K' v L1 W' → K v W') : nN P E ⟨d, .call ⟨.value fv, ax, ats⟩, ty, pos, af, g⟩ W K := by
 have i : ax.map (kJ E) = args.toArray := by simpa using ha
 refine H7 (args := (args ++ caps.toList).toArray) n he (by rw [i]; simp) (cD (m (a.held c) (a.TE c) (a.Uc c) (a.KT c)) (fun _ W' ⟨v, L1, h1, j, k⟩ => ⟨v, h1, h W' v _ L1 ((a.perm c).back j) ((a.perm c).Lm W' L1) ((a.perm c).Om W' L1) ?_ k⟩))
 intro b s o q
 unfold Et
 rw [aJ (by omega)]
 exact q
theorem Sl.lift {α : Type} {enc : α → List Value} {k : Nat} {M μ' : lq} {B : Nat} {v : Value} {l : List α} (h : Sl (Pl enc) k M v l) (q : Fr B v) (n : ∀ b, B ≤ b → ∀ o, M b = some o → μ' b = some o) : Sl (Pl enc) k μ' v l := by
 obtain ⟨A, c, h1, d, g, i⟩ := h
 refine ⟨A, c, h1, d, g, fun s => ?_⟩
 obtain ⟨b, off, cs, T, fr, a, j, m⟩ := i s
 exact ⟨b, off, cs, T, fr, a, n b (q b (by rw [h1, a]; rfl)) _ j, m⟩
theorem AH {t : TypeId} (dd : Nat) {s u : Array TypeId} {b : Bool} (d : P.underlying t = some (.func s u b)) (f : Fn) (a c : Array Value) (W : World) : (Op.equalIn (dd + 1) t (.func f a c) .nilFunc).run P W = .ok false W := by
 simp [Op.equalIn, aT d]
theorem OP {tx tv : TypeId} {x y : Operand} {f : Fn} {a b : Array Value} {s u : Array TypeId} {bb : Bool} (h : P.underlying tx = some (.func s u bb)) (i : kJ E x = .func f a b) (j : kJ E y = .nilFunc) :
  mA P E ⟨d, .binOp .neq tx x y tv, ty, pos, af, g⟩ W (.bool true) W := by
 show (do let r ← (do eqGuard .neq tx x y (kJ E x) (kJ E y); binOp .neq tx (kJ E x) (kJ E y)); pure (.value r) : Sem Next).run P W = _
 rw [i, j]
 have c := AH 9999 h f a b W
 simp [eqGuard, binOp, Op.equal, show Op.maxDepth = 9999 + 1 from rfl, c]
theorem OJ {tx tv : TypeId} {x y : Operand} {f : Fn} {a b : Array Value} {s u : Array TypeId} {bb : Bool} (h : P.underlying tx = some (.func s u bb)) (i : kJ E x = .func f a b) (j : kJ E y = .nilFunc) :
  mA P E ⟨d, .binOp .eql tx x y tv, ty, pos, af, g⟩ W (.bool false) W := by
 show (do let r ← (do eqGuard .eql tx x y (kJ E x) (kJ E y); binOp .eql tx (kJ E x) (kJ E y)); pure (.value r) : Sem Next).run P W = _
 rw [i, j]
 have c := AH 9999 h f a b W
 simp [eqGuard, binOp, Op.equal, show Op.maxDepth = 9999 + 1 from rfl, c]
end
def zD {κ β : Type} (beq : κ → κ → Bool) (l : List (κ × β)) (k : κ) (z : β) : β := (mo beq l k).getD z
section
variable {P : Program} {W : World} {κ β : Type} {kt : TypeId} {kenc : κ → Value} {beq : κ → κ → Bool} {vf : β → Value} {E : Nat → Value} {d : Option Nat} {ty : TypeId} {pos : String} {af : Array Edge} {g : Option (Nat × Bool)} {F : Nat → Prop} {w : World} {μ : lq} {L R : List (Nat × Obj)} {v : Value} {left : List (κ × β)}
theorem xF {t e : TypeId} {m x : Operand} {a : Value} {l : List (κ × β)} {k : κ} {z : β} (K : pC P kt kenc beq) (i : P.underlying t = some (.map kt e)) (n : ∀ w, (zeroValue e).run P w = .ok (vf z) w) (hm : kJ E m = a) (j : kJ E x = kenc k) (c : xp kenc vf (hp W) a l) :
  mA P E ⟨d, .lookup t m x false, ty, pos, af, g⟩ W (vf (zD beq l k z)) W := by
 have := M6 (d := d) (ty := ty) (pos := pos) (af := af) (g := g) K i n hm j c
 rw [zD]
 cases h : mo beq l k with
 | none => rw [h] at this; exact this
 | some y => rw [h] at this; exact this
theorem mx.one {a : Value} {l : List (κ × β)} (h : mx kenc vf a l R) : a.oneCell' = true := by obtain ⟨m, es, clock, rfl, _⟩ := h; rfl
theorem mx.form {a : Value} {l : List (κ × β)} (h : mx kenc vf a l R) : ∃ m, a = .map (some m) := by obtain ⟨m, es, clock, rfl, _⟩ := h; exact ⟨m, rfl⟩
theorem mx.nd {a : Value} {l : List (κ × β)} (h : mx kenc vf a l R) : (R.map (·.1)).Nodup := by obtain ⟨m, es, clock, rfl, rfl, _⟩ := h; simp
theorem mx.zM {a : Value} {l : List (κ × β)} (h : mx kenc vf a l R) : xp kenc vf (Cw R) a l := by
 obtain ⟨m, es, clock, rfl, rfl, c⟩ := h
 exact .inr ⟨m, es, clock, rfl, by simp [Cw], c⟩
end
def oI {α : Type} (l : List α) (i : Nat) (z : α) : List α := l.take i ++ List.replicate (l.length - i) z
theorem wD {α : Type} (l : List α) (i : Nat) (z : α) (h : i ≤ l.length) : (oI l i z).length = l.length := by simp [oI]; omega
theorem IM {α : Type} (l : List α) (i : Nat) (z : α) (h : i ≤ l.length) : (oI l i z).take i = l.take i := by
 simp only [oI]
 rw [eF, cV (by simp; omega)]
 simp; omega
end Go.Proofs.YtbnbdigcbldfhaaGreat
namespace Go.Proofs.YtbnbdigcbldfhaaGreat
open Go.RowKit
theorem LQ {P : Program} {cs : Array Value} {b : Bool} {n : Nat} {W : World} : ∀ (l : List Field),
  (∀ f ∈ l, f.name ≠ "_" → ∃ v, (part f.type cs f.offset).run P W = .ok v W ∧ (Instr.checkKey b n f.type v).run P W = .ok () W) →
  ((forIn l PUnit.unit fun f (_ : PUnit) => do
   if f.name ≠ "_" then Instr.checkKey b n f.type (← part f.type cs f.offset)
   pure (ForInStep.yield PUnit.unit)) : Sem PUnit).run P W = .ok PUnit.unit W
 | [], _ => by simp
 | f :: l, h => by
  have ih := LQ l (fun f d => h f (dJ _ d))
  simp only [List.forIn_cons, cd]
  by_cases a : f.name ≠ "_"
  ·obtain ⟨v, h1, c⟩ := h f (by simp) a
   simp only [aK a, cd, h1, bN, c, db]
   exact ih
  ·simp only [aJ a, cd, db, bN]
   exact ih
theorem Bn {P : Program} {kt : TypeId} {a : Array Field} {l : List Field} {cs : Array Value} {b : Bool} {n : Nat} {W : World} (d : P.underlying kt = some (.struct a)) (c : a.toList = l) (h : ∀ f ∈ l, f.name ≠ "_" → ∃ v, (part f.type cs f.offset).run P W = .ok v W ∧ (Instr.checkKey b n f.type v).run P W = .ok () W) : (Instr.checkKey b (n + 1) kt (.agg cs)).run P W = .ok () W := by
 obtain ⟨a⟩ := a
 subst c
 simp only [Instr.checkKey, cd, aT d, bN, List.forIn_toArray]
 have := LQ (P := P) (cs := cs) (b := b) (n := n) (W := W) a h
 simp only [cd] at this
 first | rw [this]; rfl | simpa using this
variable {dd : Bool}
def nM (b : Bool) : Option Unit := if b = true then some () else none
theorem IT {b : Bool} {u : Unit} (h : nM b = some u) : b = true := by
 unfold nM at h; split at h
 ·assumption
 ·cases h
theorem qW {a c : Int} {u : Unit} (h : nM (decide (0 ≤ a) && decide (a ≤ c)) = some u) : 0 ≤ a := by have := IT h; simp at this; exact this.1
theorem qR {a c : Int} {u : Unit} (h : nM (decide (0 ≤ a) && decide (a ≤ c)) = some u) : a ≤ c := by have := IT h; simp at this; exact this.2
def EF (k : Nat) (v : Value) (i : Nat) (u : Value) : Prop := ∃ A n c A' a, v = .slice A n c ∧ u = .slice A' (n - i) a ∧ i ≤ n ∧ (i < n → ∃ b o, A = some ⟨b, o, none⟩ ∧ A' = some ⟨b, o + i * k, none⟩)
section
variable {P : Program} {E : Nat → Value} {W : World} {d : Option Nat} {ty : TypeId} {pos : String} {af : Array Edge} {g : Option (Nat × Bool)}
 {F : Nat → Prop} {w : World} {μ : lq} {L : List (Nat × Obj)} {α : Type} {e' : TypeId} {enc : α → List Value} {k : Nat} {v : Value} {l : List α} {R : List (Nat × Obj)}
theorem tW {t e : TypeId} {x a : Operand} {A : IntKind} {i : Int} (n : P.underlying t = some (.slice e)) (he : ∀ w, (sizeOf e).run P w = .ok k w) (o : kJ E x = v) (j : kJ E a = .int A i) (h : kZ e' enc k v l R) (s : 0 ≤ i) (m : i ≤ l.length) :
  ∃ u, EF k v i.toNat u ∧ ∀ W, mA P E ⟨d, .slice t x (some a) none none, ty, pos, af, g⟩ W u W := by
 rcases h with ⟨rfl, rfl, rfl⟩ | ⟨c, cap, q, rfl, rfl, h1, D, G, I⟩
 ·have : i = 0 := by simp at m; omega
  subst this
  refine ⟨.slice none 0 0, ⟨none, 0, 0, none, 0, rfl, rfl, bD _, fun h => absurd h (by simp)⟩, fun W => ?_⟩
  show (do pure (.value (← Instr.sliceAt t (kJ E x) (some (kJ E a)) none none)) : Sem Next).run P W = _
  rw [o, j]
  simp [Instr.sliceAt, Instr.slice, Instr.sliceBounds, Instr.sliceBound, asIntOf, aT n, he W]
 ·refine ⟨.slice (some (if cap = i.toNat then ⟨c, 0, none⟩ else (Addr.add ⟨c, 0, none⟩ (i.toNat * k)))) (l.length - i.toNat) (cap - i.toNat), ⟨_, _, _, _, _, rfl, rfl, by omega, fun z => ⟨c, 0, rfl, ?_⟩⟩, fun W => ?_⟩
  ·rw [aJ (by omega)]; simp [dq]
  ·show (do pure (.value (← Instr.sliceAt t (kJ E x) (some (kJ E a)) none none)) : Sem Next).run P W = _
   rw [o, j]
   have y : 0 ≤ i ∧ i ≤ (l.length : Int) := ⟨s, m⟩
   simp [Instr.sliceAt, Instr.slice, Instr.sliceBounds, Instr.sliceBound, asIntOf, aT n, he W, y]
   split <;> rfl
theorem xi {i j : Nat} {x0 : α} (h : (l.drop i)[j]? = some x0) : l[i + j]? = some x0 := by rwa [dz] at h
theorem Hd {t e : TypeId} {x : Operand} {u : Value} {i : Nat} (m : P.underlying t = some (.slice e)) (o : kJ E x = u) (hu : EF k v i u) (h : kZ e' enc k v l R) : mA P E ⟨d, .call ⟨.builtin .len, #[x], #[t]⟩, ty, pos, af, g⟩ W (.int .i64 ((l.length - i : Nat) : Int)) W := by
 obtain ⟨A, n, c, A', q, h1, j, w, _⟩ := hu
 subst j
 have : n = l.length := by
  rcases h with ⟨rfl, rfl, rfl⟩ | ⟨s, cap, a, rfl, rfl, _⟩
  ·cases h1; rfl
  ·cases h1; rfl
 subst this
 exact BR m o
theorem ue {t e : TypeId} {x m : Operand} {T : IntKind} {i : Int} {x0 : α} {u : Value} {o : Nat} (M : P.underlying t = some (.slice e)) (he : ∀ w, (sizeOf e).run P w = .ok k w) (Q : kJ E x = u) (J : kJ E m = .int T i) (h : kZ e' enc k v l R) (hu : EF k v o u) (D : 0 ≤ i) (L : (l.drop o)[i.toNat]? = some x0) :
  ∃ p, Fa R k p (o + i.toNat) ∧ ∀ W, mA P E ⟨d, .indexAddr t x m, ty, pos, af, g⟩ W p W := by
 have a := xi L
 have j : o + i.toNat < l.length := (bB.1 a).1
 rcases h with ⟨rfl, rfl, rfl⟩ | ⟨z, cap, q, rfl, rfl, h1, Y, Z, h4⟩
 ·simp at j
 obtain ⟨A, n, c, A', U, s, rfl, h7, G⟩ := hu
 cases s
 obtain ⟨b, oo, y, rfl⟩ := G (by omega)
 cases y
 refine ⟨.pointer (some ⟨z, (o + i.toNat) * k, none⟩), ⟨_, _, rfl, rfl⟩, fun W => ?_⟩
 show (do pure (.value (← Instr.indexAt t (kJ E x) (kJ E m))) : Sem Next).run P W = _
 rw [Q, J]
 have I : 0 ≤ i ∧ i < ((l.length - o : Nat) : Int) := ⟨D, by omega⟩
 simp [Instr.indexAt, asIntOf, aT M, he W, I, dq, cC]
theorem Rg {u : rH α} {t e : TypeId} {x ih : Operand} {Y : IntKind} {j : Int} (U : P.underlying t = some (.slice e)) (he : ∀ w, (sizeOf e).run P w = .ok k w) (m : kJ E x = v) (Q : kJ E ih = .int Y j) (h : Sl u k μ v l) (D : 0 ≤ j) (hl : j ≤ l.length) :
  ∃ s, (Sl u k μ s (l.take j.toNat) ∧ ∀ B, Fr B v → Fr B s) ∧ ∀ W, mA P E ⟨d, .slice t x none (some ih) none, ty, pos, af, g⟩ W s W := by
 obtain ⟨A, c, rfl, h2, G, I⟩ := h
 have R : j.toNat ≤ l.length := by omega
 refine ⟨.slice A (l.take j.toNat).length c, ⟨⟨A, c, rfl, by simp; omega, G, fun hp => ?_⟩, fun B M b n => M b (by cases A with | none => simp [Value.ownBlock] at n | some a => (obtain ⟨y, Z, q⟩ := a; cases q <;> simp [Value.ownBlock] at n ⊢ <;> exact n))⟩, fun W => ?_⟩
 ·have o : 0 < l.length := by simp at hp; omega
  obtain ⟨b, off, cs, T, fr, rfl, J, L⟩ := I o
  refine ⟨b, off, cs, T, fr, rfl, J, fun i x m => ?_⟩
  rw [dA] at m
  split at m
  ·exact L i x m
  ·cases m
 ·show (do pure (.value (← Instr.sliceAt t (kJ E x) none (some (kJ E ih)) none)) : Sem Next).run P W = _
  rw [m, Q]
  have n : 0 ≤ j ∧ j ≤ (c : Int) := ⟨D, by omega⟩
  have z : min j.toNat l.length = j.toNat := by omega
  simp [Instr.sliceAt, Instr.slice, Instr.sliceBounds, Instr.sliceBound, asIntOf, aT U, he W, n, z]
  intro _
  cases A with
  | none => rfl
  | some a => obtain ⟨y, Z, q⟩ := a; cases q <;> simp [Addr.add]
theorem Fp (ys : List Value) (m : Nat) : (Builtin.zeroCells ys.toArray m).toList = (List.replicate m ys).flatten := by
 unfold Builtin.zeroCells
 simp only [Array.toList_map, Array.toList_range, cN]
 rcases dI ys.length with a | a
 ·have : ys = [] := dH.1 a
  subst this
  simp
 apply dG
 intro q
 by_cases d : q < m * ys.length
 ·have h1 : q / ys.length < m := (ic a).2 d
  have c : q % ys.length < ys.length := Nat.mod_lt _ a
  have := za (enc := fun _ : Unit => ys) (fun _ => rfl) (List.replicate m ()) (q / ys.length) () (by simp [h1]) (q % ys.length) ys[q % ys.length] (by simp [c])
  rw [Nat.div_add_mod' q ys.length] at this
  rw [je] at this
  rw [this]
  simp [d, c]
 ·rw [cQ (by simp; omega), cQ (by simp; omega)]
theorem O8 {K : Value → World → Prop} (z : α) (X : List (Nat × Obj)) {Y : List (Nat × Obj)} {t e : TypeId} {x : Operand} {u zv : Value} {i : Nat} (q : ST dd F w W μ (X ++ (R ++ Y))) (h : kZ e' enc k v l R) (hk : ∀ x, (enc x).length = k) (h1 : ∀ x, ∀ u ∈ enc x, u.oneCell' = true) (T : P.underlying t = some (.slice e)) (hz : ∀ w, (zeroValue e).run P w = .ok zv w) (hu : EF k v i u) (hc : zv.cells = (enc z).toArray) (hx : kJ E x = u) (M : ∀ W' R', ST dd F w W' μ (X ++ (R' ++ Y)) → kZ e' enc k v (oI l i z) R' → K (.tuple #[]) W') : nN P E ⟨d, .call ⟨.builtin .clear, #[x], #[t]⟩, ty, pos, af, g⟩ W K := by
 have j : ∀ (W' : World), (Builtin.clear_ #[t] ty #[u]).run P W = .ok (.tuple #[]) W' → (execOp (kJ E) ⟨d, .call ⟨.builtin .clear, #[x], #[t]⟩, ty, pos, af, g⟩).run P W = .ok (.value (.tuple #[])) W' := by
  intro W' hV
  show (do let d ← resolve (kJ E) ⟨.builtin .clear, #[x], #[t]⟩ ty; invoke d.target d.args : Sem Next).run P W = _
  simp [resolve, invoke, builtin, hx, hV]
 obtain ⟨A, n, c, A', c', e1, rfl, G, h8⟩ := hu
 rcases h with ⟨rfl, rfl, rfl⟩ | ⟨y, cap, a, rfl, rfl, q1, q2, J, q4⟩
 ·cases e1
  refine .inl ⟨_, W, j W ?_, M W [] q (by simpa [oI] using kZ.nil e' enc k)⟩
  simp only [Builtin.clear_, Nat.zero_sub]
  cases A' <;> simp [aT T]
 ·cases e1
  by_cases hi : i < l.length
  ·obtain ⟨b, o, e2, rfl⟩ := h8 hi
   cases e2
   have Z : ∀ m, (Builtin.zeroCells zv.cells m).toList = (List.replicate m (enc z)).flatten := by
    intro m
    rw [hc]; exact Fp _ _
   have hb := (q.box y (.cells a e' (0, 0)) (by simp)).1
   have hle : i * k + (l.length - i) * k = l.length * k := by rw [← cC]; congr 1; omega
   have hlen : l.length * k ≤ c * k := cn _ q1
   have s : ((List.replicate (l.length - i) (enc z)).flatten).length = (l.length - i) * k := by simp [hk]
   have D : ∀ v ∈ (List.replicate (l.length - i) (enc z)).flatten, v.oneCell' = true := by
    intro v I
    obtain ⟨ys, U, I⟩ := iq.1 I
    rw [(List.mem_replicate.1 U).2] at I
    exact h1 z v I
   have hs := jA (P := P) y (i * k) e' ((List.replicate (l.length - i) (enc z)).flatten) 0 a W hb (by rw [s, J]; omega) D
   rw [jZ, s, hle] at hs
   refine .inl ⟨_, W.setRow y (a.toList.take (i * k) ++ (List.replicate (l.length - i) (enc z)).flatten ++ a.toList.drop (l.length * k)).toArray, j _ ?_, M _ [(y, .cells (a.toList.take (i * k) ++ (List.replicate (l.length - i) (enc z)).flatten ++ a.toList.drop (l.length * k)).toArray e' (0, 0))] (q.store _) (.inr ⟨y, c, _, by rw [wD _ _ _ G], rfl, by rw [wD _ _ _ G]; exact q1, q2, ?_, ?_⟩)⟩
   ·have hn : l.length - i = (l.length - i - 1) + 1 := by omega
    simp only [Builtin.clear_]
    rw [hn]
    simp only [aT T, cd, bN, fD, gw, hz, dg]
    rw [← hn, Z, hs]
    simp
   ·have L : a.toList.length = c * k := by simpa using J
    rw [cN, aI, aI, cz, dt, s, L, cP (by omega)]
    omega
   ·rw [wD _ _ _ G, oI, cq, fY, En hk l i G, ← q4, eK, cP (by omega), je]
    have L : a.toList.length = c * k := by simpa using J
    have e3 : (a.toList.take (i * k) ++ (List.replicate (l.length - i) (enc z)).flatten).length = l.length * k := by rw [aI, cz, s, L, cP (by omega)]; omega
    show List.take (l.length * k) (a.toList.take (i * k) ++ (List.replicate (l.length - i) (enc z)).flatten ++ a.toList.drop (l.length * k)) = _
    rw [eF, cV (by rw [e3]; exact bD _), e3, Nat.sub_self]
    simp
  ·have Q : i = l.length := by omega
   subst Q
   refine .inl ⟨_, W, j W ?_, M W _ q ?_⟩
   ·simp only [Builtin.clear_, Nat.sub_self]
    cases A' <;> simp [aT T]
   ·simp only [oI, List.take_length, Nat.sub_self, List.replicate_zero, ct]
    exact .inr ⟨y, c, a, rfl, rfl, q1, q2, J, q4⟩
end
end Go.Proofs.YtbnbdigcbldfhaaGreat
namespace Go.Proofs.YtbnbdigcbldfhaaGreat
open Go.RowKit
variable {dd : Bool}
section
variable {P : Program} {E : Nat → Value} {W : World} {d : Option Nat} {ty : TypeId} {pos : String} {af : Array Edge} {g : Option (Nat × Bool)}
 {F : Nat → Prop} {w : World} {μ : lq} {L : List (Nat × Obj)}
theorem QZ {K : Value → World → Prop} {f : FuncId} {fv : Operand} {ax : Array Operand} {ats : Array TypeId} {args : List Value} {v : Value} (c : kJ E fv = .func (.func f) #[] #[]) (ha : ax.map (kJ E) ++ (#[] : Array Value) = args.toArray) (i : (callFunc f args.toArray).run P W = .ok (.value v) W) (h : K v W) : nN P E ⟨d, .call ⟨.value fv, ax, ats⟩, ty, pos, af, g⟩ W K := by
 have a : ax.map (kJ E) = args.toArray := by simpa using ha
 refine .inl ⟨v, W, ?_, h⟩
 show (do let d ← resolve (kJ E) ⟨.value fv, ax, ats⟩ ty; invoke d.target d.args : Sem Next).run P W = _
 simp only [resolve, c, Deferred.ofValue, cd, db, bN, invoke]
 rw [a]
 simpa using i
def zJ (s : ByteArray) (c : Int) : Int := Lib.indexByte s.data.toList c.toNat.toUInt8
def oH (a b : ByteArray) : Int := Lib.compareBytes a.data.toList b.data.toList
def zP (l : List Int) : List UInt8 := l.map fun x => x.toNat.toUInt8
def AR (a b : List Int) : Int := Lib.compareBytes (zP a) (zP b)
theorem Km {f : FuncId} {fn : Func} (g : P.funcs[f]? = some fn) (a : (fn.name == "runtime.NumGoroutine") = false) (d : fn.body.isNone = true) (h : Extern.findNext fn = none) (he : Extern.find fn = some Extern.BytealgIndexByte.indexByte) (s : ByteArray) (c : Int) (w : World) :
  (callFunc f [Value.string s, .int .u8 c].toArray).run P w = .ok (.value (.int .i64 (zJ s c))) w := by
 rw [iS g a d h he]
 rw [Lib.run_indexByteString]
 rfl
theorem Th {f : FuncId} {fn : Func} (g : P.funcs[f]? = some fn) (c : (fn.name == "runtime.NumGoroutine") = false) (d : fn.body.isNone = true) (h : Extern.findNext fn = none) (he : Extern.find fn = some Extern.BytealgCompare.compare) (a b : ByteArray) (w : World) :
  (callFunc f [Value.string a, .string b].toArray).run P w = .ok (.value (.int .i64 (oH a b))) w := by
 rw [iS g c d h he]
 rw [Lib.run_compareString]
 rfl
theorem GO {v : Value} {l : List Int} (h : Sl (Pl (lM .u8)) 1 (hp W) v l) : (Extern.Bytes.bytesOf v).run P W = .ok ⟨(zP l).toArray⟩ W := by
 obtain ⟨A, c, rfl, o, q, i⟩ := h
 rcases dI l.length with a | a
 ·have : l = [] := dH.1 a
  subst this
  cases A <;> simp [Extern.Bytes.bytesOf, Extern.Bytes.loadBytes, zP] <;> rfl
 ·obtain ⟨b, off, cs, T, fr, rfl, k, m⟩ := i a
  have := Lib.run_loadBytesX (P := P) W l ⟨b, off, none⟩ .empty (fun j x n => by
   obtain ⟨ys, _, g, d⟩ := m j x n
   cases g
   rw [dq, fJ W b (off + j) cs T fr k]
   have := d 0 (.int .u8 x) rfl
   simpa using this)
  simp only [Extern.Bytes.bytesOf]
  rw [this]
  congr 1
  apply jK
  show (#[] : Array UInt8) ++ _ = _
  simp [Lib.bytesOf, zP]
theorem Ub {f : FuncId} {fn : Func} (j : P.funcs[f]? = some fn) (c : (fn.name == "runtime.NumGoroutine") = false) (i : fn.body.isNone = true) (k : Extern.findNext fn = none) (he : Extern.find fn = some Extern.BytealgCompare.compare) {d g : Value} {a b : List Int} (h1 : Sl (Pl (lM .u8)) 1 (hp W) d a) (h : Sl (Pl (lM .u8)) 1 (hp W) g b) :
  (callFunc f [d, g].toArray).run P W = .ok (.value (.int .i64 (AR a b))) W := by
 rw [iS j c i k he]
 have : (Extern.BytealgCompare.compare [d, g].toArray).run P W = .ok (.int .i64 (AR a b)) W := by
  change Sem.run P (do pure (goInt (Extern.BytealgCompare.cmp (← Extern.Bytes.bytesOf d) (← Extern.Bytes.bytesOf g)))) W = _
  simp only [cd, GO h1, GO h, db, Result.andThen]
  rw [Lib.cmp_eq]
  rfl
 rw [this]
 rfl
theorem tX {fn : Fn} {caps : Array Operand} {cs : List Value} {v : Value} (a : caps.map (kJ E) ++ (#[] : Array Value) = cs.toArray) (c : .func fn #[] cs.toArray = v) : mA P E ⟨d, .makeFunc fn #[] caps, ty, pos, af, g⟩ W v W := by
 have : caps.map (kJ E) = cs.toArray := by simpa using a
 exact QC (by rw [this]; simpa using c)
theorem mn.mono {f : FuncId} {args : List Value} {L0 : List (Nat × Obj)} {K K' : Value → List (Nat × Obj) → World → Prop} (h : mn dd P f args w L0 K) (hk : ∀ v L1 W', K v L1 W' → K' v L1 W') : mn dd P f args w L0 K' :=
 cD h (fun _ _ ⟨v, L1, h1, a, c⟩ => ⟨v, L1, h1, a, hk _ _ _ c⟩)
end
section
variable {α : Type}
def uy (cf : α × α → Option Int) (x y : α) : Bool := match cf (x, y) with
 | some c => decide (c < 0)
 | none => false
structure Ho (cf : α × α → Option Int) (l : List α) : Prop where
 is : ∀ x ∈ l, ∀ y ∈ l, ∃ c, cf (x, y) = some c
 irrefl : ∀ x ∈ l, uy cf x x = false
 trans : ∀ x ∈ l, ∀ y ∈ l, ∀ z ∈ l, uy cf x y = true → uy cf y z = true → uy cf x z = true
 total : ∀ x ∈ l, ∀ y ∈ l, uy cf x y = false → uy cf y x = false → x = y
 short : l.length < 4611686018427387904
def pS (cf : α × α → Option Int) (l : List α) : List α := l.mergeSort fun x y => !uy cf y x
open Classical in
noncomputable def yF (cf : α × α → Option Int) (l : List α) : Option (List α) := if Ho cf l then some (pS cf l) else none
theorem CS {cf : α × α → Option Int} {l r : List α} (h : yF cf l = some r) : Ho cf l ∧ r = pS cf l := by
 unfold yF at h
 split at h
 ·rename_i a; cases h; exact ⟨a, rfl⟩
 ·cases h
theorem OD {cf : α × α → Option Int} {l : List α} (h : Ho cf l) : yF cf l = some (pS cf l) := by
 unfold yF; rw [aK h]
def pd (l : List ByteArray) : List ByteArray := l.mergeSort fun x y => !qz y x
def Ib (l : List ByteArray) : Option (List ByteArray) := if l.length < 4611686018427387904 then some (pd l) else none
end
end Go.Proofs.YtbnbdigcbldfhaaGreat
namespace Go.Proofs.YtbnbdigcbldfhaaGreat
open Go.RowKit
variable {dd : Bool}
def zg {κ γ : Type} (Q : Value → γ → List (Nat × Obj) → Prop) : List (κ × Value) → List (κ × γ) → List (Nat × Obj) → Prop
 | [], [], R => R = []
 | p :: a, q :: l, R => p.1 = q.1 ∧ ∃ R1 R2, R = R1 ++ R2 ∧ Q p.2 q.2 R1 ∧ zg Q a l R2
 | _, _, _ => False
def nC {κ γ : Type} (kenc : κ → Value) (Q : Value → γ → List (Nat × Obj) → Prop) (v : Value) (d : List (κ × Value)) (l : List (κ × γ)) (R : List (Nat × Obj)) : Prop :=
 ∃ a c, R = a ++ c ∧ mx kenc (fun x => x) v d a ∧ zg Q d l c
section
variable {κ γ : Type} {Q : Value → γ → List (Nat × Obj) → Prop} {beq : κ → κ → Bool} {kenc : κ → Value}
theorem zg.keys : ∀ {a : List (κ × Value)} {l : List (κ × γ)} {R : List (Nat × Obj)}, zg Q a l R → a.map (·.1) = l.map (·.1)
 | [], [], _, _ => rfl
 | [], _ :: _, _, h => h.elim
 | _ :: _, [], _, h => h.elim
 | p :: a, q :: l, R, h => by
  obtain ⟨h1, R1, R2, _, _, c⟩ := h
  simp [h1, zg.keys c]
theorem zg.find {a : List (κ × Value)} {l : List (κ × γ)} {R : List (Nat × Obj)} (h : zg Q a l R) (k : κ) : a.findIdx? (fun p => beq k p.1) = l.findIdx? (fun p => beq k p.1) := by
 have h1 : (a.map (·.1)).findIdx? (fun x => beq k x) = (l.map (·.1)).findIdx? (fun x => beq k x) := by rw [h.keys]
 rw [gC, gC] at h1
 exact h1
theorem zg.get : ∀ {c : List (κ × Value)} {l : List (κ × γ)} {R : List (Nat × Obj)}, zg Q c l R → ∀ (i : Nat) (k : κ) (x : γ), l[i]? = some (k, x) →
  ∃ v A R1 B, c[i]? = some (k, v) ∧ R = A ++ (R1 ++ B) ∧ Q v x R1 ∧ ∀ k2 v2 x2 R2, Q v2 x2 R2 → zg Q (c.set i (k2, v2)) (l.set i (k2, x2)) (A ++ (R2 ++ B))
 | [], [], _, _, i, k, x, a => by simp at a
 | [], _ :: _, _, h, _, _, _, _ => h.elim
 | _ :: _, [], _, h, _, _, _, _ => h.elim
 | p :: c, q :: l, R, h, 0, k, x, a => by
  obtain ⟨h1, R1, R2, rfl, d, g⟩ := h
  simp at a
  subst a
  refine ⟨p.2, [], R1, R2, by simp only [gw]; exact aU some (Prod.ext h1 rfl), rfl, d, fun k2 v2 x2 R2' j => ⟨rfl, R2', R2, rfl, j, g⟩⟩
 | p :: c, q :: l, R, h, i + 1, k, x, a => by
  obtain ⟨h1, R1, R2, rfl, d, g⟩ := h
  simp at a
  obtain ⟨v, A, R1', B, g1, rfl, g3, g4⟩ := zg.get g i k x a
  exact ⟨v, R1 ++ A, R1', B, by simpa using g1, by simp, g3, fun k2 v2 x2 R2' j => ⟨h1, R1, A ++ (R2' ++ B), by simp, d, g4 k2 v2 x2 R2' j⟩⟩
theorem zg.push : ∀ {c : List (κ × Value)} {l : List (κ × γ)} {R : List (Nat × Obj)}, zg Q c l R → ∀ (k : κ) {v : Value} {x : γ} {R1 : List (Nat × Obj)}, Q v x R1 → zg Q (c ++ [(k, v)]) (l ++ [(k, x)]) (R ++ R1)
 | [], [], _, h, k, v, x, R1, a => by
  have i : _ = [] := h
  subst i
  exact ⟨rfl, R1, [], by simp, a, rfl⟩
 | [], _ :: _, _, h, _, _, _, _, _ => h.elim
 | _ :: _, [], _, h, _, _, _, _, _ => h.elim
 | p :: c, q :: l, R, h, k, v, x, R1, a => by
  obtain ⟨h1, d, g, rfl, j, m⟩ := h
  exact ⟨h1, d, g ++ R1, by simp, j, zg.push m k a⟩
theorem nC.found {t : Value} {d : List (κ × Value)} {l : List (κ × γ)} {R : List (Nat × Obj)} (hk : ∀ {x y : κ}, beq x y = true → x = y) (h : nC kenc Q t d l R) {k : κ} {x : γ} (c : mo beq l k = some x) :
  ∃ v A R1 B, mo beq d k = some v ∧ R = A ++ (R1 ++ B) ∧ Q v x R1 ∧ (∀ x2 R2, Q v x2 R2 → nC kenc Q t d (ow beq l k x2) (A ++ (R2 ++ B))) := by
 obtain ⟨q, D, rfl, u, s⟩ := h
 rw [AG] at c
 cases g : l.findIdx? (fun p => beq k p.1) with
 | none => rw [g] at c; cases c
 | some i =>
  rw [g] at c
  obtain ⟨p, hp, w⟩ := ub g
  simp only [aA, hp, dC, gD] at c
  subst c
  have o := hk w
  obtain ⟨v, A, R1, B, g1, rfl, g3, g4⟩ := s.get i p.1 p.2 hp
  have m : d.findIdx? (fun p => beq k p.1) = some i := by rw [s.find k, g]
  refine ⟨v, q ++ A, R1, B, by rw [AG, m]; simp [g1], by simp, g3, fun x2 R2 z => ⟨q, A ++ (R2 ++ B), by simp, u, ?_⟩⟩
  have a := g4 k v x2 R2 z
  have e : d.set i (k, v) = d := by
   apply dG
   intro j
   rw [eU]
   split
   ·rename_i n
    subst n
    rw [g1, o]
    simp [(bB.1 g1).1]
   ·rfl
  rw [e] at a
  rw [ow, g]
  exact a
theorem nC.QS {j : Value} {d : List (κ × Value)} {l : List (κ × γ)} {R : List (Nat × Obj)} (h : nC kenc Q j d l R) {k : κ} (a : mo beq l k = none) : mo beq d k = none := by
 obtain ⟨m, n, rfl, o, g⟩ := h
 rw [AG] at a ⊢
 rw [g.find k]
 cases c : l.findIdx? (fun p => beq k p.1) with
 | none => rfl
 | some i =>
  rw [c] at a
  obtain ⟨p, hp, q⟩ := ub c
  simp [hp] at a
def th (beq : κ → κ → Bool) (a : List (κ × Value)) (k : κ) (z : Value) : Value := (mo beq a k).getD z
variable {P : Program} {W : World} {kt : TypeId} {E : Nat → Value} {d : Option Nat} {ty : TypeId} {pos : String} {af : Array Edge} {g : Option (Nat × Bool)} {F : Nat → Prop} {w : World} {μ : lq} {L : List (Nat × Obj)}
theorem qc {t e : TypeId} {m x : Operand} {c z : Value} {a : List (κ × Value)} {l : List (κ × γ)} {R : List (Nat × Obj)} {k : κ} (K : pC P kt kenc beq) (s : P.underlying t = some (.map kt e)) (v : ∀ w, (zeroValue e).run P w = .ok z w) (hm : kJ E m = c) (u : kJ E x = kenc k) (n : nC kenc Q c a l R) (q : ∀ b o, (b, o) ∈ R → W.heap[b]? = some o) : mA P E ⟨d, .lookup t m x false, ty, pos, af, g⟩ W (th beq a k z) W := by
 obtain ⟨y, A, rfl, i, D⟩ := n
 have j := M6 (d := d) (ty := ty) (pos := pos) (af := af) (g := g) K s v hm u (i.at (μ := hp W) (fun b o h => q b o (bF _ h)))
 simpa [th] using j
variable {κ2 β : Type} {kenc2 : κ2 → Value} {vf : β → Value} {beq2 : κ2 → κ2 → Bool} {kt2 : TypeId}
theorem nC.Gc {i : Value} {c : List (κ × Value)} {l : List (κ × List (κ2 × β))} {R : List (Nat × Obj)} (hk : ∀ {x y : κ}, beq x y = true → x = y) (h : nC kenc (mx kenc2 vf) i c l R) (k : κ) {μ : lq} (d : ∀ b o, (b, o) ∈ R → μ b = some o) :
  xp kenc2 vf μ (th beq c k (.map none)) ((mo beq l k).getD []) := by
 cases a : mo beq l k with
 | none => rw [th, h.QS a]; exact .inl ⟨rfl, rfl⟩
 | some x =>
  obtain ⟨v, A, R1, B, g1, rfl, g3, _⟩ := h.found hk a
  rw [th, g1]
  exact g3.at (fun b o g => d b o (by simp [g]))
theorem nC.isNil {d : Value} {c : List (κ × Value)} {l : List (κ × List (κ2 × β))} {R : List (Nat × Obj)} (hk : ∀ {x y : κ}, beq x y = true → x = y) (h : nC kenc (mx kenc2 vf) d c l R) (k : κ) :
  ∃ r, th beq c k (.map none) = .map r ∧ r.isNone = (mo beq l k).isNone := by
 cases a : mo beq l k with
 | none => rw [th, h.QS a]; exact ⟨none, rfl, rfl⟩
 | some x =>
  obtain ⟨v, A, R1, B, g1, rfl, g3, _⟩ := h.found hk a
  obtain ⟨m, es, clock, rfl, _⟩ := g3
  rw [th, g1]
  exact ⟨_, rfl, rfl⟩
def IY {κ κ2 β : Type} (beq : κ → κ → Bool) (beq2 : κ2 → κ2 → Bool) (l : List (κ × List (κ2 × β))) (k : κ) (k2 : κ2) (x : β) : Option (List (κ × List (κ2 × β))) := (mo beq l k).map fun a => ow beq l k (ow beq2 a k2 x)
def Jm {κ γ : Type} (beq : κ → κ → Bool) (l : List (κ × γ)) (k : κ) (x : γ) : Option (List (κ × γ)) := if (mo beq l k).isNone then some (ow beq l k x) else none
theorem SY {q : Value → World → Prop} (X : List (Nat × Obj)) {Y R : List (Nat × Obj)} {t e : TypeId} {m x y : Operand} {z : Value} {o : List (κ × Value)} {l s : List (κ × List (κ2 × β))} {k : κ} {k2 : κ2} {v : β} (hk : ∀ {x y : κ}, beq x y = true → x = y) (K : pC P kt2 kenc2 beq2) (I : P.underlying t = some (.map kt2 e)) (i : ST dd F w W μ (X ++ (R ++ Y))) (h : nC kenc (mx kenc2 vf) z o l R) (hm : kJ E m = th beq o k (.map none)) (J : kJ E x = kenc2 k2) (L : kJ E y = vf v) (c : IY beq beq2 l k k2 v = some s) (G : ∀ W' R', ST dd F w W' μ (X ++ (R' ++ Y)) → nC kenc (mx kenc2 vf) z o s R' → q undef W') : nN P E ⟨d, .mapUpdate t m x y, ty, pos, af, g⟩ W q := by
 unfold IY at c
 cases j : mo beq l k with
 | none => rw [j] at c; cases c
 | some M =>
  rw [j] at c
  cases c
  obtain ⟨u, A, R1, B, g1, rfl, g3, g4⟩ := h.found hk j
  have n : kJ E m = u := by rw [hm, th, g1]; rfl
  have a : ST dd F w W μ ((X ++ A) ++ (R1 ++ (B ++ Y))) := by simpa using i
  refine BX (X ++ A) K I a g3 n J L (fun W' R' h1 D => G W' (A ++ (R' ++ B)) ?_ (g4 _ _ D))
  simpa using h1
theorem RM {D : Value → World → Prop} (X : List (Nat × Obj)) {Y R R2 : List (Nat × Obj)} {t e : TypeId} {m x y : Operand} {A : Value} {v : List (κ × Value)} {l J : List (κ × γ)} {k : κ} {u : Value} {z : γ} (K : pC P kt kenc beq) (ht : P.underlying t = some (.map kt e)) (s : ST dd F w W μ (X ++ (R ++ (R2 ++ Y)))) (h : nC kenc Q A v l R) (hm : kJ E m = A) (hx : kJ E x = kenc k) (hy : kJ E y = u) (hq : Q u z R2) (c : Jm beq l k z = some J) (Z : ∀ W' R', ST dd F w W' μ (X ++ (R' ++ Y)) → nC kenc Q A (ow beq v k u) J R' → D undef W') : nN P E ⟨d, .mapUpdate t m x y, ty, pos, af, g⟩ W D := by
 unfold Jm at c
 cases n : mo beq l k with
 | some l2 => rw [n] at c; cases c
 | none =>
  rw [n] at c
  simp only [Option.isNone_none, bA, gD] at c
  subst c
  have hn := h.QS n
  obtain ⟨M, o, rfl, T, U⟩ := h
  have j : ST dd F w W μ (X ++ (M ++ (o ++ (R2 ++ Y)))) := by simpa using s
  refine BX X K ht j T hm hx hy (fun W' R' g1 g2 => Z W' (R' ++ (o ++ R2)) (by simpa using g1) ⟨R', o ++ R2, rfl, g2, ?_⟩)
  have G : ∀ {L : Type} (q : List (κ × L)) (y : L), mo beq q k = none → ow beq q k y = q ++ [(k, y)] := fun q y a => by
   rw [AG] at a
   rw [ow]
   cases I : q.findIdx? (fun p => beq k p.1) with
   | none => rfl
   | some i =>
    obtain ⟨p, hp, _⟩ := ub I
    rw [I] at a
    simp [hp] at a
  rw [G v u hn, G l z n]
  exact U.push k hq
end
end Go.Proofs.YtbnbdigcbldfhaaGreat
namespace Go.Proofs.YtbnbdigcbldfhaaGreat
open Go.RowKit
variable {dd : Bool}
section
variable {κ γ : Type} {Q : Value → γ → List (Nat × Obj) → Prop} {beq : κ → κ → Bool} {kenc : κ → Value}
theorem sH {a : Type} {l : List (κ × a)} {k : κ} {i : Nat} (h : l.findIdx? (fun p => beq k p.1) = some i) (x : a) : ow beq l k x = l.set i (k, x) := by rw [ow, h]
theorem xH {a : Type} {l : List (κ × a)} {k : κ} (h : l.findIdx? (fun p => beq k p.1) = none) (x : a) : ow beq l k x = l ++ [(k, x)] := by rw [ow, h]
theorem Ha {a : Type} {l : List (κ × a)} {k : κ} (h : l.findIdx? (fun p => beq k p.1) = none) : mo beq l k = none := by rw [AG, h]; rfl
theorem Gb {a : Type} {l : List (κ × a)} {k : κ} {i : Nat} {p : κ × a} (h : l.findIdx? (fun p => beq k p.1) = some i) (hp : l[i]? = some p) : mo beq l k = some p.2 := by rw [AG, h]; simp [hp]
def Rk (beq : κ → κ → Bool) (kenc : κ → Value) (Q : Value → γ → List (Nat × Obj) → Prop) (d : Value) (c : List (κ × Value)) (l : List (κ × γ)) (k : κ) (R : List (Nat × Obj)) : Prop :=
 ∃ a A B, R = a ++ (A ++ B) ∧ mx kenc (fun x => x) d c a ∧ ∀ v x R1, Q v x R1 → zg Q (ow beq c k v) (ow beq l k x) (A ++ (R1 ++ B))
theorem nC.open (hk : ∀ {x y : κ}, beq x y = true → x = y) {s z : Value} {x0 : γ} (m : Q z x0 []) {n : List (κ × Value)} {l : List (κ × γ)} {R : List (Nat × Obj)} (h : nC kenc Q s n l R) (k : κ) :
  ∃ R' R1, R.Perm (R' ++ R1) ∧ Q (th beq n k z) ((mo beq l k).getD x0) R1 ∧ Rk beq kenc Q s n l k R' := by
 obtain ⟨d, o, rfl, q, g⟩ := h
 have c := g.find (beq := beq) k
 cases a : l.findIdx? (fun p => beq k p.1) with
 | none =>
  rw [a] at c
  refine ⟨d ++ o, [], by simp, ?_, d, o, [], by simp, q, fun v x R1 j => ?_⟩
  ·rw [th, Ha a, Ha c]; exact m
  ·rw [xH a, xH c]; simpa using g.push k j
 | some i =>
  rw [a] at c
  obtain ⟨p, hp, t⟩ := ub a
  have u := hk t
  obtain ⟨v, A, R1, B, g1, rfl, g3, g4⟩ := g.get i p.1 p.2 hp
  refine ⟨d ++ (A ++ B), R1, ?_, ?_, d, A, B, rfl, q, fun v2 x2 R2 j => ?_⟩
  ·rw [aV, aV]
   refine cM _ (cM _ dM)
  ·rw [th, Gb a hp, Gb c g1]; exact g3
  ·rw [sH a, sH c]; exact g4 k v2 x2 R2 j
variable {P : Program} {W : World} {kt : TypeId} {E : Nat → Value} {d : Option Nat} {ty : TypeId} {pos : String} {af : Array Edge} {g : Option (Nat × Bool)} {F : Nat → Prop} {w : World} {μ : lq} {L : List (Nat × Obj)}
theorem XS {j : Value → World → Prop} (X : List (Nat × Obj)) {Y R R1 : List (Nat × Obj)} {t e : TypeId} {m x y : Operand} {i : Value} {n : List (κ × Value)} {l : List (κ × γ)} {k : κ} {u : Value} {z : γ} (K : pC P kt kenc beq) (G : P.underlying t = some (.map kt e)) (c : ST dd F w W μ (X ++ (R ++ (R1 ++ Y)))) (h : Rk beq kenc Q i n l k R) (hm : kJ E m = i) (I : kJ E x = kenc k) (J : kJ E y = u) (D : Q u z R1) (v : ∀ W' R', ST dd F w W' μ (X ++ (R' ++ Y)) → nC kenc Q i (ow beq n k u) (ow beq l k z) R' → j undef W') : nN P E ⟨d, .mapUpdate t m x y, ty, pos, af, g⟩ W j := by
 obtain ⟨o, A, B, rfl, q, s⟩ := h
 have a : ST dd F w W μ (X ++ (o ++ (A ++ (B ++ (R1 ++ Y))))) := by simpa using c
 refine BX X K G a q hm I J (fun W' R' g1 g2 => v W' (R' ++ (A ++ (R1 ++ B))) ?_ ⟨R', A ++ (R1 ++ B), rfl, g2, s u z R1 D⟩)
 refine g1.perm ?_
 simp only [aV]
 refine cM _ (cM _ (cM _ ?_))
 rw [← aV, ← aV]
 exact gE _ dM
def MK (beq : κ → κ → Bool) (kenc : κ → Value) (Q : Value → γ → List (Nat × Obj) → Prop) (c : Value) (l : List (κ × γ)) (k : κ) (st : Nat) (R : List (Nat × Obj)) : Prop :=
 ∃ m es clock a A B i e, c = .map (some m) ∧ R = (m, .map es clock) :: (A ++ B) ∧ xo kenc (fun x => x) a es clock ∧ es[i]? = some e ∧ e.born = st ∧ a.findIdx? (fun p => beq k p.1) = some i ∧
  ∀ v x R1, Q v x R1 → zg Q (ow beq a k v) (ow beq l k x) (A ++ (R1 ++ B))
theorem Le {g : Type} (hk : ∀ x : κ, beq x x = true) (d : List (κ × g)) (k : κ) (a b : g) : ow beq (ow beq d k a) k b = ow beq d k b := by
 cases c : d.findIdx? (fun p => beq k p.1) with
 | none =>
  have h1 : (d ++ [(k, a)]).findIdx? (fun p => beq k p.1) = some d.length := by
   rw [iG, c]
   simp [eO, hk]
  rw [xH c, xH c, sH h1]
  simp
 | some i =>
  obtain ⟨p, hp, o⟩ := ub c
  have h1 : (d.set i (k, a)).findIdx? (fun p => beq k p.1) = some i := by
   rw [dS] at c ⊢
   obtain ⟨h1, n, h⟩ := c
   refine ⟨by simpa using h1, by simp [hk], fun j m => ?_⟩
   rw [List.getElem_set_ne (by omega)]
   exact h j m
  rw [sH c, sH c, sH h1]
  simp
end
end Go.Proofs.YtbnbdigcbldfhaaGreat
namespace Go.Proofs.YtbnbdigcbldfhaaGreat
open Go.RowKit
variable {dd : Bool}
section
variable {κ γ : Type} {Q : Value → γ → List (Nat × Obj) → Prop} {beq : κ → κ → Bool} {kenc : κ → Value}
variable {P : Program} {W : World} {kt : TypeId} {E : Nat → Value} {d : Option Nat} {ty : TypeId} {pos : String} {af : Array Edge} {g : Option (Nat × Bool)} {F : Nat → Prop} {w : World} {μ : lq} {L : List (Nat × Obj)}
theorem He {es : Array MapEntry} {i : Nat} {f c : MapEntry → MapEntry} (h : ∀ e, es[i]? = some e → f e = c e) : es.modify i f = es.modify i c := by
 apply Array.ext_getElem?
 intro j
 rw [dL, dL]
 split
 ·rename_i a
  subst a
  cases he : es[i]? with
  | none => rfl
  | some e => simp [h e he]
 ·rfl
theorem xo.val {c : List (κ × Value)} {es : Array MapEntry} {clock : Nat} (h : xo kenc (fun x => x) c es clock) {i : Nat} {e : MapEntry} (he : es[i]? = some e) : ∃ p, c[i]? = some p ∧ e.key = kenc p.1 ∧ e.val = p.2 := by
 have a := aU (fun q => q[i]?) h.Il
 simp only [dw, df, he, dC] at a
 cases hp : c[i]? with
 | none => rw [hp] at a; cases a
 | some p =>
  rw [hp] at a
  simp only [dC, gD, Prod.mk.injEq] at a
  exact ⟨p, rfl, a.1, a.2⟩
theorem Q5 {Kk : Value → World → Prop} (X : List (Nat × Obj)) {Y R : List (Nat × Obj)} {t e : TypeId} {m x : Operand} {mv z : Value} {x0 : γ} {lv : List (κ × Value)} {l : List (κ × γ)} {k : κ} (hk : ∀ {x y : κ}, beq x y = true ↔ x = y) (K : pC P kt kenc beq) (ht : P.underlying t = some (.map kt e)) (hz : ∀ w, (zeroValue e).run P w = .ok z w) (ae : Q z x0 []) (U : ST dd F w W μ (X ++ (R ++ Y))) (h : nC kenc Q mv lv l R) (hm : kJ E m = mv) (hx : kJ E x = kenc k) (hK : ∀ W' v st R' R1, ST dd F w W' μ (X ++ (R' ++ (R1 ++ Y))) → Q v ((mo beq l k).getD x0) R1 → MK beq kenc Q mv l k st R' → Kk (.tuple #[v, .int .i64 (st : Nat)]) W') : nN P E ⟨d, .mapEntry t m x, ty, pos, af, g⟩ W Kk := by
 obtain ⟨Rm, Rv, rfl, ⟨o, es, clock, rfl, rfl, s⟩, T⟩ := h
 have hb : W.heap[o]? = some (.map es clock) := (U.box o (.map es clock) (by simp)).1
 have h5 : (getObj o : Sem Obj).run P W = .ok (.map es clock) W := by simp [getObj, Sem.run, hb]
 have L := K.find k _ _ s.keys W
 rw [s.get k] at L
 have G := T.find (beq := beq) k
 have D : ∀ W' v, (Instr.mapEntry t (.map (some o)) (kenc k)).run P W = .ok v W' → (execOp (kJ E) ⟨d, .mapEntry t m x, ty, pos, af, g⟩).run P W = .ok (.value v) W' := by
  intro W' v hr
  show (do pure (.value (← Instr.mapEntry t (kJ E m) (kJ E x))) : Sem Next).run P W = _
  rw [hm, hx]
  simp [hr]
 have u : ST dd F w W μ (X ++ (o, .map es clock) :: (Rv ++ Y)) := by simpa using U
 cases c : lv.findIdx? (fun p => beq k p.1) with
 | none =>
  rw [c] at L G
  have a := s.put (beq := beq) k z
  rw [c] at a
  refine .inl ⟨_, ChangeMaps.setBlock W o (.map (es.push { key := kenc k, val := z, born := clock }) (clock + 1)), D _ (.tuple #[z, .int .i64 (clock : Nat)]) ?_, hK _ z clock ((o, .map (es.push { key := kenc k, val := z, born := clock }) (clock + 1)) :: (Rv ++ [])) [] ?_ ?_ ?_⟩
  ·simp [Instr.mapEntry, aT ht, h5, K.check, L, A0 hb, hz _, goInt]
  ·have := u.setBlock (.map (es.push { key := kenc k, val := z, born := clock }) (clock + 1))
   simpa using this
  ·rw [Ha G.symm]; exact ae
  ·refine ⟨o, _, _, lv ++ [(k, z)], Rv, [], es.size, { key := kenc k, val := z, born := clock }, rfl, rfl, a, by simp, rfl, ?_, fun v x R1 hq => ?_⟩
   ·rw [iG, c]
    have ab := s.length
    simp [eO, hk, ab]
   ·rw [← xH c, Le (fun x => hk.2 rfl), xH c, xH G.symm]
    simpa using T.push k hq
 | some i =>
  rw [c] at L G
  obtain ⟨p, hp, ad⟩ := ub c
  obtain ⟨q, aa, Z⟩ := ub G.symm
  have ah := hk.1 Z
  obtain ⟨v, A, R1, B, g1, rfl, g3, g4⟩ := T.get i q.1 q.2 aa
  have a8 : p.2 = v := by rw [g1] at hp; cases hp; rfl
  have ab := s.length
  have ag : i < lv.length := (bB.1 hp).1
  obtain ⟨M, n⟩ : ∃ M, es[i]? = some M := ⟨es[i], eS (by omega)⟩
  obtain ⟨p', a7, I, J⟩ := s.val n
  rw [hp] at a7
  cases a7
  simp only [aA, hp, dC] at L
  have a := s.put (beq := beq) k v
  rw [c] at a
  have a1 : ((es[i]?).map (·.key)).getD (kenc k) = kenc k := by
   rw [n]
   simp only [dC, ir, I]
   exact K.eq k p.1 ad
  have a6 : es.modify i (fun e => { e with key := kenc k }) = es.modify i (fun e => { e with key := kenc k, val := v }) := He fun e he => by
   rw [n] at he; cases he
   rw [← a8, ← J]
  refine .inl ⟨_, ChangeMaps.setBlock W o (.map (es.modify i fun e => { e with key := kenc k, val := v }) clock), D _ (.tuple #[v, .int .i64 (M.born : Nat)]) ?_, hK _ v M.born ((o, .map (es.modify i fun e => { e with key := kenc k, val := v }) clock) :: (A ++ B)) R1 ?_ ?_ ?_⟩
  ·simp only [Instr.mapEntry, cd, aT ht, h5, K.check, L, bN, a1, Instr.keyThatStays, K.bits, bA, db]
   rw [A0 hb, a6]
   simp [n, goInt, a8]
  ·have := u.setBlock (.map (es.modify i fun e => { e with key := kenc k, val := v }) clock)
   refine this.perm ?_
   simp only [aV, cF]
   refine cM _ (List.Perm.cons _ (cM _ ?_))
   rw [← aV, ← aV]
   exact gE _ dM
  ·rw [Gb G.symm aa]; exact g3
  ·refine ⟨o, _, _, lv.set i (k, v), A, B, i, { M with key := kenc k, val := v }, rfl, rfl, a, ?_, rfl, ?_, fun v2 x2 R2 hq => ?_⟩
   ·rw [dL, aK rfl, n]; rfl
   ·rw [dS] at c ⊢
    obtain ⟨h1, s, T⟩ := c
    refine ⟨by simpa using h1, by simp [hk], fun j hj => ?_⟩
    rw [List.getElem_set_ne (by omega)]
    exact T j hj
   ·rw [← sH c, Le (fun x => hk.2 rfl), sH c, sH G.symm]
    exact g4 k v2 x2 R2 hq
theorem Su {es : Array MapEntry} (h : es.toList.Pairwise (fun a b => a.born < b.born)) {i : Nat} {e : MapEntry} (he : es[i]? = some e) : es.findIdx? (fun a => (a.born : Int) == (e.born : Int)) = some i := by
 rw [Array.findIdx?_eq_some_iff_getElem]
 obtain ⟨d, c⟩ := cK.1 he
 refine ⟨d, by rw [c]; simp, fun j g => ?_⟩
 have := fU.1 h j i (by simpa using Nat.lt_trans g d) (by simpa using d) g
 simp only [Array.getElem_toList] at this
 rw [c] at this
 simp
 omega
theorem OB {Kk : Value → World → Prop} (X : List (Nat × Obj)) {Y R R1 : List (Nat × Obj)} {t e : TypeId} {m s y : Operand} {mv u : Value} {z : γ} {l : List (κ × γ)} {k : κ} {st : Nat} (hk : ∀ {x y : κ}, beq x y = true ↔ x = y) (K : pC P kt kenc beq) (q : ST dd F w W μ (X ++ (R ++ (R1 ++ Y)))) (h : MK beq kenc Q mv l k st R) (hm : kJ E m = mv) (hs : kJ E s = .int .i64 (st : Nat)) (hy : kJ E y = u) (hq : Q u z R1) (hK : ∀ W' Z R', ST dd F w W' μ (X ++ (R' ++ Y)) → nC kenc Q mv Z (ow beq l k z) R' → Kk undef W') : nN P E ⟨d, .entryStore t m s y, ty, pos, af, g⟩ W Kk := by
 obtain ⟨c, es, clock, lv, A, B, i, en, rfl, rfl, L, n, j, T, h3⟩ := h
 have hb : W.heap[c]? = some (.map es clock) := (q.box c (.map es clock) (by simp)).1
 have h5 : (getObj c : Sem Obj).run P W = .ok (.map es clock) W := by simp [getObj, Sem.run, hb]
 obtain ⟨p, hp, M⟩ := ub T
 obtain ⟨p', J, o, U⟩ := L.val n
 rw [hp] at J
 cases J
 have a := L.put (beq := beq) k u
 rw [T] at a
 have I : es.modify i (fun e => { e with val := u }) = es.modify i (fun e => { e with key := kenc k, val := u }) := He fun e he => by
  rw [n] at he; cases he
  have D : en.key = kenc k := by rw [o]; exact K.eq k p.1 M
  rw [← D]
 have G := Su L.born n
 rw [j] at G
 have v : ST dd F w W μ (X ++ (c, .map es clock) :: (A ++ (B ++ (R1 ++ Y)))) := by simpa using q
 refine .inr (.inl ⟨ChangeMaps.setBlock W c (.map (es.modify i fun e => { e with key := kenc k, val := u }) clock), ?_, hK _ (ow beq lv k u) ((c, .map (es.modify i fun e => { e with key := kenc k, val := u }) clock) :: (A ++ (R1 ++ B))) ?_ ⟨[(c, .map (es.modify i fun e => { e with key := kenc k, val := u }) clock)], A ++ (R1 ++ B), rfl, ⟨c, _, _, rfl, rfl, ?_⟩, h3 u z R1 hq⟩⟩)
 ·show (do Instr.entryStore t (kJ E m) (kJ E s) (kJ E y); pure .skip : Sem Next).run P W = _
  rw [hm, hs, hy]
  simp only [Instr.entryStore, cd, h5, bN, asInt, asIntOf, db, G]
  rw [A0 hb, I]
  rfl
 ·have := v.setBlock (.map (es.modify i fun e => { e with key := kenc k, val := u }) clock)
  refine this.perm ?_
  simp only [aV, cF]
  refine cM _ (List.Perm.cons _ (cM _ ?_))
  rw [← aV, ← aV]
  exact gE _ dM
 ·rw [sH T]; exact a
end
end Go.Proofs.YtbnbdigcbldfhaaGreat
namespace Go.Proofs.YtbnbdigcbldfhaaGreat
open Go.RowKit
variable {dd : Bool}
section
variable {κ γ : Type} {Q : Value → γ → List (Nat × Obj) → Prop} {beq : κ → κ → Bool} {kenc : κ → Value}
def mS (kenc : κ → Value) (Q : Value → γ → List (Nat × Obj) → Prop) (v : Value) (l : List (κ × γ)) (R : List (Nat × Obj)) : Prop := ∃ a, nC kenc Q v a l R
def sa (kenc : κ → Value) (Q : Value → γ → List (Nat × Obj) → Prop) (μ : lq) (v : Value) (l : List (κ × γ)) : Prop := ∃ a R, nC kenc Q v a l R ∧ ∀ b o, (b, o) ∈ R → μ b = some o
theorem mS.at {v : Value} {l : List (κ × γ)} {R : List (Nat × Obj)} {μ : lq} (h : mS kenc Q v l R) (a : ∀ b o, (b, o) ∈ R → μ b = some o) : sa kenc Q μ v l := let ⟨c, h⟩ := h; ⟨c, R, h, a⟩
theorem sa.mono {v : Value} {l : List (κ × γ)} {μ μ' : lq} (h : sa kenc Q μ v l) (d : lb μ μ') : sa kenc Q μ' v l := let ⟨g, R, h, a⟩ := h; ⟨g, R, h, fun b o c => d _ _ (a b o c)⟩
theorem nC.form {v : Value} {a : List (κ × Value)} {l : List (κ × γ)} {R : List (Nat × Obj)} (h : nC kenc Q v a l R) : ∃ m, v = .map (some m) := let ⟨_, _, _, h, _⟩ := h; h.form
theorem nC.e {v : Value} {a : List (κ × Value)} {l : List (κ × γ)} {R : List (Nat × Obj)} (h : nC kenc Q v a l R) : mS kenc Q v l R := ⟨a, h⟩
theorem mS.form {v : Value} {l : List (κ × γ)} {R : List (Nat × Obj)} (h : mS kenc Q v l R) : ∃ m, v = .map (some m) := let ⟨_, h⟩ := h; h.form
theorem mS.new {v : Value} {R : List (Nat × Obj)} (h : mx (β := Value) kenc (fun x => x) v [] R) : mS kenc Q v [] R := ⟨[], R, [], (ct R).symm, h, rfl⟩
theorem nC.rowAt {α : Type} {e : TypeId} {enc : α → List Value} {n : Nat} {g : Value} {c : List (κ × Value)} {l : List (κ × List α)} {R : List (Nat × Obj)} (hk : ∀ {x y : κ}, beq x y = true → x = y) (h : nC kenc (kZ e enc n) g c l R) (k : κ) :
  ∃ R1, kZ e enc n (th beq c k (.slice none 0 0)) ((mo beq l k).getD []) R1 ∧ ∀ b o, (b, o) ∈ R1 → (b, o) ∈ R := by
 cases a : mo beq l k with
 | none => refine ⟨[], ?_, fun b o h => by cases h⟩; rw [th, h.QS a]; exact .inl ⟨rfl, rfl, rfl⟩
 | some x =>
  obtain ⟨v, A, R1, B, g1, rfl, g3, _⟩ := h.found hk a
  refine ⟨R1, ?_, fun b o d => by simp [d]⟩
  rw [th, g1]; exact g3
theorem kZ.GH {α : Type} {e : TypeId} {enc : α → List Value} {k : Nat} {v : Value} {l : List α} {R : List (Nat × Obj)} (h : kZ e enc k v l R) (hk : ∀ x, (enc x).length = k) : Sl (Pl enc) k (Cw R) v l := by
 refine h.sl hk (fun b o a => ?_)
 rcases h with ⟨rfl, rfl, rfl⟩ | ⟨g, cap, c, rfl, rfl, _⟩
 ·cases a
 ·simp at a; obtain ⟨rfl, rfl⟩ := a; simp [Cw]
end
theorem rY.hp (W : World) : rY (hp W) [] W := ⟨fun _ _ h => h, fun _ _ h => by cases h⟩
section
variable {P : Program} {W : World} {E : Nat → Value} {d : Option Nat} {ty : TypeId} {pos : String} {af : Array Edge} {g : Option (Nat × Bool)} {F : Nat → Prop} {w : World} {μ : lq} {L : List (Nat × Obj)}
theorem Kh {t k e : TypeId} (dd : Nat) (c : P.underlying t = some (.map k e)) (a : Option Nat) (W : World) : (Op.equalIn (dd + 1) t (.map a) (.map none)).run P W = .ok a.isNone W := by
 cases a <;> simp [Op.equalIn, aT c]
theorem Ro {tx tv k e : TypeId} {x y : Operand} {r : Option Nat} {b : Bool} (h : P.underlying tx = some (.map k e)) (i : kJ E x = .map r) (j : kJ E y = .map none) (c : r.isNone = b) :
  mA P E ⟨d, .binOp .eql tx x y tv, ty, pos, af, g⟩ W (.bool b) W := by
 subst c
 show (do let r ← (do eqGuard .eql tx x y (kJ E x) (kJ E y); binOp .eql tx (kJ E x) (kJ E y)); pure (.value r) : Sem Next).run P W = _
 rw [i, j]
 have a := Kh 9999 h r W
 simp [eqGuard, binOp, Op.equal, show Op.maxDepth = 9999 + 1 from rfl, a]
theorem OZ {κ κ2 β : Type} {kenc : κ → Value} {kenc2 : κ2 → Value} {vf : β → Value} {beq : κ → κ → Bool} {tx tv kt e : TypeId} {x y : Operand} {n : Value} {a : List (κ × Value)} {l : List (κ × List (κ2 × β))} {R : List (Nat × Obj)} {k : κ} (hk : ∀ {x y : κ}, beq x y = true → x = y) (i : P.underlying tx = some (.map kt e)) (h : nC kenc (mx kenc2 vf) n a l R) (j : kJ E x = th beq a k (.map none)) (m : kJ E y = .map none) :
  mA P E ⟨d, .binOp .eql tx x y tv, ty, pos, af, g⟩ W (.bool (mo beq l k).isNone) W := by
 obtain ⟨r, h1, c⟩ := h.isNil hk k
 exact Ro i (j.trans h1) m c
theorem FU {κ γ : Type} {c : Value → World → Prop} {t : TypeId} (kenc : κ → Value) (Q : Value → γ → List (Nat × Obj) → Prop) (a : ST dd F w W μ L) (i : ∀ W' v R, ST dd F w W' μ (R ++ L) → mS kenc Q v [] R → c v W') : nN P E ⟨d, .makeMap t none, ty, pos, af, g⟩ W c :=
 Ee kenc (fun x : Value => x) a (fun W' v R h1 h => i W' v R h1 (mS.new h))
end
def qS {α : Type} (e : TypeId) (enc : α → List Value) (k : Nat) (v : Value) (l : List α) (R : List (Nat × Obj)) : Prop :=
 (v = .slice none 0 0 ∧ l = [] ∧ R = []) ∨
 ∃ g off cap a, v = .slice (some ⟨g, off, none⟩) l.length cap ∧ R = [(g, .cells a e (0, 0))] ∧ l.length ≤ cap ∧ cap ≤ maxLen ∧ off + cap * k ≤ a.size ∧ (a.toList.drop off).take (l.length * k) = (l.map enc).flatten
section
variable {α : Type} {e : TypeId} {enc : α → List Value} {k : Nat} {v : Value} {l : List α} {R : List (Nat × Obj)}
theorem qS.nil (e : TypeId) (enc : α → List Value) (k : Nat) : qS e enc k (.slice none 0 0) [] [] := .inl ⟨rfl, rfl, rfl⟩
theorem kZ.YX (h : kZ e enc k v l R) : qS e enc k v l R := by
 rcases h with h | ⟨g, cap, a, h1, c, d, i, m, j⟩
 ·exact .inl h
 ·exact .inr ⟨g, 0, cap, a, h1, c, d, i, by omega, by simpa using j⟩
theorem qS.len (h : qS e enc k v l R) : l.length ≤ 9223372036854775807 := by
 rcases h with ⟨rfl, rfl, rfl⟩ | ⟨g, off, cap, a, rfl, rfl, h1, c, _⟩
 ·simp
 ·unfold maxLen at c; omega
theorem qS.form (h : qS e enc k v l R) : ∃ A c, v = .slice A l.length c := by
 rcases h with ⟨rfl, rfl, rfl⟩ | ⟨g, off, cap, a, rfl, rfl, _⟩
 ·exact ⟨_, _, rfl⟩
 ·exact ⟨_, _, rfl⟩
theorem qS.GH (h : qS e enc k v l R) (hk : ∀ x, (enc x).length = k) : Sl (Pl enc) k (Cw R) v l := by
 rcases h with ⟨rfl, rfl, rfl⟩ | ⟨g, off, cap, a, rfl, rfl, h1, d, q, m⟩
 ·exact Sl.nil _ _ _
 ·refine ⟨_, cap, rfl, h1, d, fun _ => ⟨g, off, a, e, (0, 0), rfl, by simp [Cw], fun i x n => ⟨enc x, hk x, rfl, fun j y o => ?_⟩⟩⟩
  have := za hk l i x n j y o
  rw [← m] at this
  have c : i * k + j < l.length * k := by
   have := (bB.1 this).1
   simp at this; omega
  rw [dD c, dz] at this
  simpa [eZ] using this
variable {P : Program} {W : World} {E : Nat → Value} {d : Option Nat} {ty : TypeId} {pos : String} {af : Array Edge} {g : Option (Nat × Bool)} {F : Nat → Prop} {w : World} {μ : lq} {L : List (Nat × Obj)}
theorem Uo {x : Operand} {t a : TypeId} (i : P.underlying t = some (.slice a)) (j : kJ E x = v) (h : qS e enc k v l R) : mA P E ⟨d, .call ⟨.builtin .len, #[x], #[t]⟩, ty, pos, af, g⟩ W (.int .i64 l.length) W := by
 obtain ⟨A, c, rfl⟩ := h.form
 exact BR i j
theorem QL {t q : TypeId} {x n : Operand} {Q : IntKind} {i : Int} (A : P.underlying t = some (.slice q)) (he : ∀ w, (sizeOf q).run P w = .ok k w) (D : kJ E x = v) (y : kJ E n = .int Q i) (hk : ∀ x, (enc x).length = k) (h : qS e enc k v l R) (G : 0 ≤ i) (z : i ≤ l.length) :
  ∃ u, qS e enc k u (l.drop i.toNat) R ∧ ∀ W, mA P E ⟨d, .slice t x (some n) none none, ty, pos, af, g⟩ W u W := by
 rcases h with ⟨rfl, rfl, rfl⟩ | ⟨m, off, cap, c, rfl, rfl, h1, T, U, I⟩
 ·have : i = 0 := by simp at z; omega
  subst this
  refine ⟨.slice none 0 0, by simpa using qS.nil e enc k, fun W => ?_⟩
  show (do pure (.value (← Instr.sliceAt t (kJ E x) (some (kJ E n)) none none)) : Sem Next).run P W = _
  rw [D, y]
  simp [Instr.sliceAt, Instr.slice, Instr.sliceBounds, Instr.sliceBound, asIntOf, aT A, he W]
 ·refine ⟨.slice (some (if cap = i.toNat then ⟨m, off, none⟩ else (Addr.add ⟨m, off, none⟩ (i.toNat * k)))) (l.length - i.toNat) (cap - i.toNat), .inr ?_, fun W => ?_⟩
  ·have a : (l.drop i.toNat).length = l.length - i.toNat := by simp
   have j : (l.map enc).flatten.drop (i.toNat * k) = ((l.drop i.toNat).map enc).flatten := by
    have J : l = l.take i.toNat ++ l.drop i.toNat := (fE _ _).symm
    have L : ((l.take i.toNat).map enc).flatten.length = i.toNat * k := by rw [pN hk, cz, cP (by omega)]
    conv => lhs; rw [J, cq, fY]
    rw [← L, List.drop_left]
   by_cases s : cap = i.toNat
   ·rw [aK s]
    have o : l.drop i.toNat = [] := List.drop_eq_nil_of_le (by omega)
    refine ⟨m, off, cap - i.toNat, c, by rw [o]; simp; omega, rfl, by rw [o]; simp, by omega, by have : (cap - i.toNat) * k ≤ cap * k := cn _ (by omega); omega, by rw [o]; simp⟩
   ·rw [aJ s]
    refine ⟨m, off + i.toNat * k, cap - i.toNat, c, by rw [a, dq], rfl, by rw [a]; omega, by omega, ?_, ?_⟩
    ·have : i.toNat * k + (cap - i.toNat) * k = cap * k := by rw [← cC]; congr 1; omega
     omega
    ·rw [a, ← j, ← I, gA, List.drop_drop, Nat.sub_mul]
  ·show (do pure (.value (← Instr.sliceAt t (kJ E x) (some (kJ E n)) none none)) : Sem Next).run P W = _
   rw [D, y]
   have M : 0 ≤ i ∧ i ≤ (l.length : Int) := ⟨G, z⟩
   simp [Instr.sliceAt, Instr.slice, Instr.sliceBounds, Instr.sliceBound, asIntOf, aT A, he W, M]
   split <;> rfl
theorem O2 {K : Value → World → Prop} {t : TypeId} {a7 : Nat} {z vs : Value} {m r : List α} (X : List (Nat × Obj)) {Y : List (Nat × Obj)} {x y : Operand} {i : TypeInfo} (a8 : ST dd F w W μ (X ++ (R ++ Y))) (hk : ∀ x, (enc x).length = k) (an : 0 < k) (h1 : ∀ x, ∀ u ∈ enc x, u.oneCell' = true) (ht : P.underlying t = some (.slice e)) (hi : P.info? e = some i) (hz : i.zero = some z) (ae : z.cells.size = k) (a6 : i.size = k) (aa : i.bytes = a7) (hx : kJ E x = v) (hy : kJ E y = vs) (hR : qS e enc k v l R) (hs : Sl (Pl enc) k (hp W) vs m) (hb : mM a7 l m = some r) (h : ∀ W' v' R', ST dd F w W' μ (X ++ (R' ++ Y)) → qS e enc k v' r R' → K v' W') : nN P E ⟨d, .call ⟨.builtin .append, #[x, y], #[t, t]⟩, ty, pos, af, g⟩ W K := by
 rcases hR with ⟨rfl, rfl, rfl⟩ | ⟨D, off, cap, s, rfl, rfl, h2, h3, h4, h5⟩
 ·exact Nu X a8 hk an h1 ht hi hz ae a6 aa hx hy (kZ.nil e enc k) hs hb (fun W' v' R' a b => h W' v' R' a b.YX)
 unfold mM at hb
 split at hb
 case isFalse => cases hb
 rename_i a1
 cases hb
 have Z : ∀ (V : Value) (W' : World), (Builtin.append_ #[t, t] ty #[.slice (some ⟨D, off, none⟩) l.length cap, vs]).run P W = .ok V W' → (execOp (kJ E) ⟨d, .call ⟨.builtin .append, #[x, y], #[t, t]⟩, ty, pos, af, g⟩).run P W = .ok (.value V) W' := by
  intro V W' hV
  show (do let d ← resolve (kJ E) ⟨.builtin .append, #[x, y], #[t, t]⟩ ty; invoke d.target d.args : Sem Next).run P W = _
  simp [resolve, invoke, builtin, hx, hy, hV]
 obtain ⟨A, c, rfl, aq, ar, ai⟩ := hs
 have L : ST dd F w W μ (X ++ (D, .cells s e (0, 0)) :: Y) := by simpa using a8
 have hg : W.heap[D]? = some (.cells s e (0, 0)) := (L.box D _ (by simp)).1
 have J := pN hk l
 have U : ∀ u ∈ (m.map enc).flatten, u.oneCell' = true := by
  intro u hu
  obtain ⟨ys, ap, ao⟩ := iq.1 hu
  obtain ⟨x, _, rfl⟩ := bI.1 ap
  exact h1 x u ao
 have I : Src P i.size t (.slice A m.length c) m.length ((m.map enc).flatten) W := by
  rw [a6]
  rcases dI m.length with h0 | h0
  ·have hm : m = [] := bP h0
   subst hm
   cases A with
   | none => exact Src.ofNil W ht c
   | some ad => exact Src.ofSlice W ht ad 0 c [] (by simp) (fun j u hu => by simp at hu) (fun u hu => by cases hu)
  ·obtain ⟨b, o, cs, T, fr, rfl, h6, h7⟩ := ai h0
   refine Src.ofSlice W ht _ _ c _ (pN hk m) (fun j u hu => ?_) U
   obtain ⟨i, x, q, h8, h9, rfl⟩ := Je hk m j u hu
   obtain ⟨ys, _, ag, ah⟩ := h7 i x h8
   cases ag
   rw [dq, fJ W b (o + (i * k + q)) cs T fr h6, ← eZ]
   exact ah q u h9
 have n := pN hk m
 have Q : ((l ++ m).map enc).flatten = (l.map enc).flatten ++ (m.map enc).flatten := by simp
 generalize (m.map enc).flatten = fm at I U n Q
 subst a6
 have au : l.length * i.size ≤ cap * i.size := cn _ h2
 by_cases G : l.length + m.length ≤ cap
 ·have av : l.length * i.size + m.length * i.size ≤ cap * i.size := by rw [← cC]; exact cn _ G
  have ab := jA (P := P) D (off + l.length * i.size) e fm 0 s W hg (by rw [n]; omega) U
  have M : (Builtin.append_ #[t, t] ty #[.slice (some ⟨D, off, none⟩) l.length cap, .slice A m.length c]).run P W = .ok (.slice (some ⟨D, off, none⟩) (l.length + m.length) cap) (W.setRow D (s.toList.take (off + l.length * i.size) ++ fm ++ s.toList.drop (off + l.length * i.size + fm.length)).toArray) := by
   simp [Builtin.append_, aT ht, sizeOf, typeInfo, hi, I.len, G, I.cells, dq]
   simp only [jZ] at ab
   rw [ab]
   simp
  refine .inl ⟨_, _, Z _ _ M, h _ _ [(D, _)] (by simpa using L.store _) (.inr ⟨D, off, cap, _, by rw [aI], rfl, by simpa using G, h3, ?_, ?_⟩)⟩
  ·simp only [cN, aI, cz, dt, cR, n]
   rw [cP (by omega)]
   omega
  ·have hA : (s.toList.take (off + l.length * i.size)).length = off + l.length * i.size := by simp; omega
   show ((s.toList.take (off + l.length * i.size) ++ (fm ++ s.toList.drop (off + l.length * i.size + fm.length))).drop off).take ((l ++ m).length * i.size) = _
   rw [Q, List.drop_append, gA, hA, show off - (off + l.length * i.size) = 0 by omega, List.drop_zero, show off + l.length * i.size - off = l.length * i.size by omega, h5]
   rw [aI, cC, eF, eF, J, n, cV (by rw [J]; omega), show l.length * i.size + m.length * i.size - l.length * i.size = m.length * i.size by omega, cV (by rw [n]; omega)]
   simp
 ·have hold : (Builtin.firstCells i.size l.length (.slice (some ⟨D, off, none⟩) l.length cap)).run P W.drew = .ok ((l.map enc).flatten).toArray W.drew := by
   refine run_firstCells_some W.drew i.size l.length ⟨D, off, none⟩ l.length cap _ J (fun j u hu => ?_)
   rw [dq]
   show W.cell? ⟨D, off + j, none⟩ = some u
   rw [fJ W D (off + j) s e (0, 0) hg]
   rw [← h5] at hu
   have hj : j < l.length * i.size := by have := (bB.1 hu).1; simp at this; omega
   rw [dD hj, dz] at hu
   simpa using hu
  have hlen : (l ++ m).length = l.length + m.length := aI
  have ak := grownCap_ge W (l.length + m.length) cap e
  have aj := jd W (l.length + m.length) cap e a1.2
  have M := run_append_grow_src (P := P) W t t ty e i z ht hi hz (some ⟨D, off, none⟩) l.length cap ((l.map enc).flatten) hold _ m.length _ I (by omega) (by have := a1.2; unfold maxLen at this; omega) (growslice_fits (by omega) (by rw [aa]; exact a1.1))
  have h6 := L.drew.alloc (.cells (((l.map enc).flatten ++ fm).toArray ++ Builtin.zeroCells z.cells (grownCap W (l.length + m.length) cap e - (l.length + m.length))) e (0, 0))
  have h7 := (ST.drop (A := (W.drew.heap.size, _) :: X) h6).perm (L' := X ++ ([(W.heap.size, _)] ++ Y)) (by simpa using (fg (a := (W.heap.size, _)) (l₁ := X) (l₂ := Y)).symm)
  refine .inl ⟨_, _, Z _ _ M, h _ _ _ h7 (kZ.YX (.inr ⟨W.heap.size, grownCap W (l.length + m.length) cap e, _, by rw [hlen], rfl, by rw [hlen]; exact ak, aj, ?_, ?_⟩))⟩
  ·rw [Array.size_append, size_zeroCells, ae]
   simp only [cN, aI, J, n]
   rw [← cC, ← cC]
   congr 1
   omega
  ·rw [Array.toList_append, List.toList_toArray, hlen, Q, List.take_append_of_le_length (by simp only [aI, J, n]; rw [cC]; exact bD _), cV (by simp only [aI, J, n]; rw [cC]; exact bD _)]
end
end Go.Proofs.YtbnbdigcbldfhaaGreat
namespace Go.Proofs.YtbnbdigcbldfhaaGreat
open Go.RowKit
section
variable {P : Program} {ops : Array Oper} {Q : Exit → Act → World → Prop} {S : Array Bool → World → Prop}
def Aj (ops : Array Oper) (l : Array Bool) : Prop := ∀ j o, ops[j]? = some o → l.getD j true = true → ∀ e ∈ o.after, Region.binds .any e = true → l.getD e.on true = true
def JY (ops : Array Oper) : Nat → List Nat → Bool
 | _, [] => true
 | j, k :: r => (match ops[j]? with | some o => o.after.any (fun e => Region.binds .any e && e.on == k) | none => false) && JY ops k r
theorem JD {l : Array Bool} (d : Aj ops l) : ∀ (r : List Nat) (j i : Nat), JY ops j r = true → (j :: r).getLast? = some i → l.getD j true = true → l.getD i true = true
 | [], j, i, _, h, a => by simp at h; subst h; exact a
 | k :: r, j, i, h, m, a => by
  simp only [JY, aP] at h
  obtain ⟨h1, g⟩ := h
  cases c : ops[j]? with
  | none => rw [c] at h1; cases h1
  | some o =>
   rw [c] at h1
   simp only [Array.any_eq_true] at h1
   obtain ⟨n, q, h1⟩ := h1
   simp only [aP, gf] at h1
   have := d j o c a o.after[n] (Array.getElem_mem q) h1.1
   rw [h1.2] at this
   exact JD d r k i g (by simpa [List.getLast?_cons_cons] using m) this
def I9 (ops : Array Oper) (i : Nat) (l : Array Bool) : Prop := Aj ops l ∧ l.getD i true = false
theorem I9.SJ {l : Array Bool} {i : Nat} (h : I9 ops i l) (j : Nat) (r : List Nat) (a : JY ops j r = true) (d : (j :: r).getLast? = some i) : l.getD j true = false := by
 cases c : l.getD j true with
 | false => rfl
 | true => have := JD h.1 r j i a d c; rw [h.2] at this; cases this
theorem Aj.start (n : Nat) (h : n = ops.size) : Aj ops (Array.replicate n false) := by
 subst h
 intro j o d c
 have a : j < ops.size := (cK.1 d).1
 simp [a] at c
theorem Aj.set {l : Array Bool} {i : Nat} (h : Aj ops l) (t : i ∈ Region.ready .any ops l) : Aj ops (l.setIfInBounds i true) := by
 intro j o s q e he n
 have up : ∀ {k : Nat}, l.getD k true = true → (l.setIfInBounds i true).getD k true = true := fun {k} hk => by
  by_cases d : i = k
  ·subst d
   by_cases m : i < l.size
   ·simp [m]
   ·simp [m]
  ·rw [kp true d]; exact hk
 by_cases c : i = j
 ·subst c
  obtain ⟨_, u, g, a⟩ := ky.1 t
  rw [s] at g
  cases g
  refine up ?_
  have := a e he n
  by_cases m : e.on < l.size
  ·simp [m] at this ⊢; exact this
  ·simp [m]
 ·rw [kp true c] at q
  exact up (h j o s q e he n)
def Fq (P : Program) (ops : Array Oper) (S : Array Bool → World → Prop) (i : Nat) (o : Oper) (v : Value) (a : Act) : Prop :=
 (Region.wanted o (yielded ops a.tmps) = true ∧ ∀ l w, I9 ops i l → S l w → (execOp a.eval o).run P w = .ok (.value v) w) ∨
 (Region.wanted o (yielded ops a.tmps) = false ∧ v = undef)
theorem Fq.YZ {i : Nat} {o : Oper} {v : Value} {a : Act} {l : Array Bool} (h : Fq P ops S i o v a) (hp : I9 ops i l) : YieldsIf P ops (S l) o v a :=
 h.imp (fun ⟨h1, c⟩ => ⟨h1, fun w hw => c l w hp hw⟩) id
def Qk (P : Program) (ops : Array Oper) (Q : Exit → Act → World → Prop) (S : Array Bool → World → Prop) : Nat → Array Bool → Act → World → Prop
 | 0, l, a, w => Region.ready .any ops l = [] ∧ Q .normal a w
 | n + 1, l, a, w => (Region.ready .any ops l = [] → Q .normal a w) ∧
  ∀ i ∈ Region.ready .any ops l, wpOp P ops Q i (fun d c => S (l.setIfInBounds i true) c ∧ Qk P ops Q S n (l.setIfInBounds i true) d c) a w
theorem Pd : ∀ (n : Nat) (l : Array Bool) (a : Act) (w : World), Qk P ops Q S n l a w → wpAny P .any ops Q n l a w
 | 0, _, _, _, h => h
 | n + 1, _, _, _, h => ⟨h.1, fun i g => wpOp_mono (fun c j d => Pd n _ c j d.2) (h.2 i g)⟩
theorem SV {i j : Nat} {d q : Oper} {v : Value} (x : ops[j]? = some q) (m : d.apart ops q = true) (n : ∀ cs b, d.op ≠ .select cs b) (o : ∀ cs b, q.op ≠ .select cs b) (u : ∀ c a w, Q (.panic c) (a.put d.dst v) w → Q (.panic c) a w) {K : Act → World → Prop} {a : Act} {w : World} (y : Fq P ops S i d v a) (h : wpOp P ops Q j K (a.put d.dst v) w) :
  wpOp P ops Q j (fun g t => Fq P ops S i d v g ∧ K (g.put d.dst v) t) a w := by
 have h1 : YieldsIf P ops (fun w => ∃ l, I9 ops i l ∧ S l w) d v a := y.imp (fun ⟨h1, k⟩ => ⟨h1, fun w ⟨l, hp, hw⟩ => k l w hp hw⟩) id
 refine wpOp_mono (fun g t s => ⟨s.1.imp (fun ⟨h1, k⟩ => ⟨h1, fun l w hp hw => k w ⟨l, hp, hw⟩⟩) id, s.2⟩) (wpOp_putIf (S := fun w => ∃ l, I9 ops i l ∧ S l w) x m n o u h1 h)
theorem LD {i : Nat} {z : Oper} {v : Value} (Y : ops[i]? = some z) (u : ∀ (j : Nat) (o : Oper) cs b, ops[j]? = some o → o.op ≠ .select cs b) (hQ : ∀ c a w, Q (.panic c) (a.put z.dst v) w → Q (.panic c) a w) (hm : ∀ l w, S (l.setIfInBounds i true) w → S l w) :
  ∀ (n : Nat) (l : Array Bool) (a : Act) (w : World), (∀ j A, ops[j]? = some A → j ≠ i → l.getD j true = false → (∀ e ∈ A.after, Region.binds .any e = true → e.on ≠ i) → z.apart ops A = true) →
   Aj ops l → i ∈ Region.ready .any ops l → Fq P ops S i z v a → S (l.setIfInBounds i true) w → Qk P ops Q S n (l.setIfInBounds i true) (a.put z.dst v) w → Qk P ops Q S (n + 1) l a w := by
 intro n
 induction n with
 | zero =>
  intro l a w _ M s R D H
  refine ⟨fun h => (by rw [h] at s; cases s), fun j G => ?_⟩
  by_cases d : j = i
  ·subst d
   exact (R.YZ ⟨M, (ky.1 s).1⟩).wpOp Y (hm l w D) ⟨D, H⟩
  ·have := ready_mono G d
   rw [H.1] at this
   cases this
 | succ n ih =>
  intro l a w m M s R D H
  refine ⟨fun h => (by rw [h] at s; cases s), fun j G => ?_⟩
  by_cases d : j = i
  ·subst d
   exact (R.YZ ⟨M, (ky.1 s).1⟩).wpOp Y (hm l w D) ⟨D, H⟩
  have h1 := H.2 j (ready_mono G d)
  obtain ⟨t, A, y, E⟩ := ky.1 G
  have J : ∀ e ∈ A.after, Region.binds .any e = true → e.on ≠ i := fun e he hb W => by
   have x := E e he hb
   have h0 := (ky.1 s).1
   rw [W] at x
   rcases iW i l.size with T | T
   ·simp [T] at h0 x; rw [h0] at x; cases x
   ·simp [Array.getElem?_eq_none T] at x
  have x := SV y (m j A y d t J) (fun cs b => u i z cs b Y) (fun cs b => u j A cs b y) hQ R h1
  have q : ∀ k ok, ops[k]? = some ok → k ≠ i → (l.setIfInBounds j true).getD k true = false → (∀ e ∈ ok.after, Region.binds .any e = true → e.on ≠ i) → z.apart ops ok = true := fun k ok hk Z L a1 => by
   refine m k ok hk Z ?_ a1
   by_cases I : j = k
   ·subst I; exact t
   ·rw [kp true I] at L; exact L
  have g : (l.setIfInBounds i true).setIfInBounds j true = (l.setIfInBounds j true).setIfInBounds i true := Array.setIfInBounds_comm _ _ (Ne.symm d)
  refine wpOp_mono (fun a' w' U => ?_) x
  have h4 : S ((l.setIfInBounds j true).setIfInBounds i true) w' := by rw [← g]; exact U.2.1
  refine ⟨hm _ w' h4, ih (l.setIfInBounds j true) a' w' q (M.set G) (ready_mono s (Ne.symm d)) U.1 h4 ?_⟩
  rw [← g]
  exact U.2.2
end
def PX (P : Program) (n : Nat) (ops : Array Oper) (Q : ov) (S : Array Bool → World → Prop) (fuel : Nat) (listed : Array Bool) (E : Nat → Value) (W : World) : Prop :=
 Aj ops listed → ∀ a, Ag n a E → Qk P ops (lift n Q) S fuel listed a W
section
variable {P : Program} {n : Nat} {Q : ov} {E : Nat → Value} {W : World} {ops : Array Oper} {S : Array Bool → World → Prop} {fuel : Nat} {listed : Array Bool}
theorem N6 {id : Nat} {l : List Oper} (S : Array Bool → World → Prop) (hm : P.follows .mixedOrders = true) (h : PX P n l.toArray Q S l.length (Array.replicate l.length false) E W.drew) : CW P n (.region id l.toArray true) Q E W := fun a ha =>
 wp_region_any hm (Pd _ _ _ _ (h (Aj.start _ (by simp)) a ha))
def Ew (ops : Array Oper) (listed : Array Bool) (i : Nat) : Bool := Region.noSelect ops && Region.free .any ops listed i && (Region.ready .any ops listed).contains i
theorem nX {o : Oper} {dd : Nat} {v : Value} (i : Nat) (g : ops[i]? = some o) (hk : Ew ops listed i = true) (hw : mG n ops E o) (m : o.dst = some dd) (q : dd < n) (hm : ∀ l w, S (l.setIfInBounds i true) w → S l w) (k : S (listed.setIfInBounds i true) W) (s : ∀ l W, I9 ops i l → S l W → mA P E o W v W) (h : PX P n ops Q S fuel (listed.setIfInBounds i true) (nE E dd v) W) : PX P n ops Q S (fuel + 1) listed E W := fun d a ha => by
 simp only [Ew, aP] at hk
 have j : i ∈ Region.ready .any ops listed := by simpa using hk.2
 exact LD g (Region.noSelect_spec hk.1.1) (fun _ _ _ h => Nv h) hm fuel listed a W (Region.free_spec g hk.1.2) d j (.inl ⟨hw.of ha, fun l w hp c => by rw [ha.eval]; exact s l w hp c⟩) k (by rw [m]; exact h (d.set j) _ (ha.put q v))
theorem G8 {A : Value → Prop} {o : Oper} {dd : Nat} (i : Nat) (g : ops[i]? = some o) (hk : Ew ops listed i = true) (hw : mG n ops E o) (d : o.dst = some dd) (j : dd < n) (hm : ∀ l w, S (l.setIfInBounds i true) w → S l w) (c : S (listed.setIfInBounds i true) W) (k : ∃ p, A p ∧ ∀ W, mA P E o W p W) (h : ∀ p, A p → PX P n ops Q S fuel (listed.setIfInBounds i true) (nE E dd p) W) : PX P n ops Q S (fuel + 1) listed E W := by
 obtain ⟨p, h1, a⟩ := k
 exact nX i g hk hw d j hm c (fun _ W _ _ => a W) (h p h1)
theorem P2 {o : Oper} {dd : Nat} (i : Nat) (d : ops[i]? = some o) (hk : Ew ops listed i = true) (hw : ∀ a, Ag n a E → Region.wanted o (yielded ops a.tmps) = false) (k : o.dst = some dd) (m : dd < n) (hm : ∀ l w, S (l.setIfInBounds i true) w → S l w) (j : S (listed.setIfInBounds i true) W) (h : PX P n ops Q S fuel (listed.setIfInBounds i true) (nE E dd undef) W) : PX P n ops Q S (fuel + 1) listed E W := fun c a ha => by
 simp only [Ew, aP] at hk
 have g : i ∈ Region.ready .any ops listed := by simpa using hk.2
 exact LD d (Region.noSelect_spec hk.1.1) (fun _ _ _ h => Nv h) hm fuel listed a W (Region.free_spec d hk.1.2) c g (.inr ⟨hw a ha, rfl⟩) j (by rw [k]; exact h (c.set g) _ (ha.put m _))
theorem YI {o : Oper} {dd j t : Nat} {want : Bool} (i : Nat) (m : ops[i]? = some o) (hk : Ew ops listed i = true) (k : o.guard = some (j, want)) (q : (ops[j]?).bind (·.dst) = some t) (u : t < n) (c : E t = .bool (!want)) (g : o.dst = some dd) (s : dd < n) (hm : ∀ l w, S (l.setIfInBounds i true) w → S l w) (d : S (listed.setIfInBounds i true) W) (h : PX P n ops Q S fuel (listed.setIfInBounds i true) (nE E dd undef) W) : PX P n ops Q S (fuel + 1) listed E W :=
 P2 i m hk (fun a ha => by have v := ha.yield q u c; simp [Region.wanted, k, v]) g s hm d h
theorem WL {o : Oper} {dd j t : Nat} {want : Bool} (i : Nat) (m : ops[i]? = some o) (hk : Ew ops listed i = true) (k : o.guard = some (j, want)) (q : (ops[j]?).bind (·.dst) = some t) (u : t < n) (c : E t = undef) (g : o.dst = some dd) (s : dd < n) (hm : ∀ l w, S (l.setIfInBounds i true) w → S l w) (d : S (listed.setIfInBounds i true) W) (h : PX P n ops Q S fuel (listed.setIfInBounds i true) (nE E dd undef) W) : PX P n ops Q S (fuel + 1) listed E W :=
 P2 i m hk (fun a ha => by have v := ha.JB q u c; simp [Region.wanted, k, v]) g s hm d h
theorem QP {o : Oper} {dd : Nat} (i : Nat) (w : ops[i]? = some o) (g : Region.ready .any ops listed = [i]) (hw : mG n ops E o) (m : o.dst = some dd) (q : dd < n) (h : nN P E o W fun v W' => S (listed.setIfInBounds i true) W' ∧ PX P n ops Q S fuel (listed.setIfInBounds i true) (nE E dd v) W') : PX P n ops Q S (fuel + 1) listed E W := fun k a ha => by
 have c : i ∈ Region.ready .any ops listed := by rw [g]; simp
 refine ⟨fun u => (by rw [u] at g; cases g), fun j s => ?_⟩
 rw [g] at s
 obtain rfl := aN.1 s
 unfold wpOp
 simp only [w]
 rw [aK (hw.of ha)]
 refine .inl ?_
 unfold Oper.wp
 rw [ha.eval]
 rcases h with ⟨v, W', h1, d⟩ | ⟨W', h1, d⟩ | ⟨f, args, h1, d⟩
 ·rw [h1, dN]; exact ⟨d.1, by rw [m]; exact d.2 (k.set c) _ (ha.put q v)⟩
 ·rw [h1, eJ]; exact ⟨d.1, by rw [m]; exact d.2 (k.set c) _ (ha.put q _)⟩
 ·rw [h1, dO]
  refine cD d ?_
  rintro e x ⟨v, rfl, t⟩
  exact ⟨t.1, by simp only [m]; exact t.2 (k.set c) _ (ha.put q v)⟩
theorem Ys {o : Oper} (i : Nat) (u : ops[i]? = some o) (g : Region.ready .any ops listed = [i]) (hw : mG n ops E o) (m : o.dst = none) (h : nN P E o W fun _ W' => S (listed.setIfInBounds i true) W' ∧ PX P n ops Q S fuel (listed.setIfInBounds i true) E W') : PX P n ops Q S (fuel + 1) listed E W := fun k a ha => by
 have c : i ∈ Region.ready .any ops listed := by rw [g]; simp
 refine ⟨fun t => (by rw [t] at g; cases g), fun j q => ?_⟩
 rw [g] at q
 obtain rfl := aN.1 q
 unfold wpOp
 simp only [u]
 rw [aK (hw.of ha)]
 refine .inl ?_
 unfold Oper.wp
 rw [ha.eval]
 rcases h with ⟨v, W', h1, d⟩ | ⟨W', h1, d⟩ | ⟨f, args, h1, d⟩
 ·rw [h1, dN, m]; exact ⟨d.1, d.2 (k.set c) _ (ha.xg _)⟩
 ·rw [h1, eJ, m]; exact ⟨d.1, d.2 (k.set c) _ (ha.xg _)⟩
 ·rw [h1, dO]
  refine cD d ?_
  rintro e w ⟨v, rfl, s⟩
  simp only [m]
  exact ⟨s.1, s.2 (k.set c) _ (ha.xg _)⟩
theorem me (d : Region.ready .any ops listed = []) (h : Q .normal E W) : PX P n ops Q S fuel listed E W := fun _ a ha => by
 cases fuel with
 | zero => exact ⟨d, E, ha, h⟩
 | succ f => exact ⟨fun _ => ⟨E, ha, h⟩, fun i c => by rw [d] at c; cases c⟩
theorem PQ {p : Prop} {b : Bool} (a : b = true) (h : b = false) : p := by rw [a] at h; cases h
theorem np {a : Array Bool} (c : listed = a) (h : PX P n ops Q S fuel a E W) : PX P n ops Q S fuel listed E W := by rw [c]; exact h
theorem Ti {E : Nat → Value} {a b : Nat} {x y : Value} (h : a ≠ b) : nE (nE E a x) b y = nE (nE E b y) a x := by
 funext t
 simp only [nE]
 by_cases h1 : t = a
 ·subst h1; simp [h]
 ·by_cases c : t = b
  ·subst c; simp [h1]
  ·simp [h1, c]
theorem Hs {o u : Oper} {d w : Nat} (i j : Nat) (M : ops[i]? = some o) (R : ops[j]? = some u) (t : Region.ready .any ops listed = [i, j]) (hw : mG n ops E o) (A : mG n ops E u) (m : o.dst = some d) (y : u.dst = some w) (s : d < n) (z : w < n) (h : nN P E o W fun v W' => S (listed.setIfInBounds i true) W' ∧ PX P n ops Q S fuel (listed.setIfInBounds i true) (nE E d v) W') (J : nN P E u W fun v W' => S (listed.setIfInBounds j true) W' ∧ PX P n ops Q S fuel (listed.setIfInBounds j true) (nE E w v) W') : PX P n ops Q S (fuel + 1) listed E W := fun x a ha => by
 have key : ∀ (k : Nat) (q : Oper) (e : Nat), ops[k]? = some q → k ∈ Region.ready .any ops listed → mG n ops E q → q.dst = some e → e < n → (nN P E q W fun v W' => S (listed.setIfInBounds k true) W' ∧ PX P n ops Q S fuel (listed.setIfInBounds k true) (nE E e v) W') →
   wpOp P ops (lift n Q) k (fun I D => S (listed.setIfInBounds k true) D ∧ Qk P ops (lift n Q) S fuel (listed.setIfInBounds k true) I D) a W := by
  intro k q e hk c hw m s h
  unfold wpOp
  simp only [hk]
  rw [aK (hw.of ha)]
  refine .inl ?_
  unfold Oper.wp
  rw [ha.eval]
  rcases h with ⟨v, W', h1, g⟩ | ⟨W', h1, g⟩ | ⟨f, args, h1, g⟩
  ·rw [h1, dN]; exact ⟨g.1, by rw [m]; exact g.2 (x.set c) _ (ha.put s v)⟩
  ·rw [h1, eJ]; exact ⟨g.1, by rw [m]; exact g.2 (x.set c) _ (ha.put s _)⟩
  ·rw [h1, dO]
   refine cD g ?_
   rintro e D ⟨v, rfl, G⟩
   exact ⟨G.1, by simp only [m]; exact G.2 (x.set c) _ (ha.put s v)⟩
 refine ⟨fun L => (by rw [L] at t; cases t), fun k hk => ?_⟩
 rw [t] at hk
 rcases aQ.1 hk with rfl | hk
 ·exact key _ o d M (by rw [t]; simp) hw m s h
 ·obtain rfl := aN.1 hk
  exact key _ u w R (by rw [t]; simp) A y z J
theorem Hc {dd : Bool} {F : Nat → Prop} {w : World} {μ : lq} {L : List (Nat × Obj)} {t A ty D : TypeId} {p p' : String} {f U : Array Edge} {z T : Value} {d m : Nat} (i j : Nat) (I : ops[i]? = some ⟨some d, .alloc t, ty, p, f, none⟩) (J : ops[j]? = some ⟨some m, .alloc A, D, p', U, none⟩) (hr : Region.ready .any ops listed = [i, j]) (x : Region.ready .any ops (listed.setIfInBounds i true) = [j]) (y : Region.ready .any ops (listed.setIfInBounds j true) = [i]) (M : d < n) (q : m < n) (v : Nat.beq d m = false) (u : Nat.beq i j = false) (o : ST dd F w W μ L) (R : ∀ w, (zeroValue t).run P w = .ok z w) (s : ∀ w, (zeroValue A).run P w = .ok T w) (h1 : ∀ W', rY μ L W' → S (listed.setIfInBounds i true) W') (Y : ∀ W', rY μ L W' → S (listed.setIfInBounds j true) W') (G : ∀ W', rY μ L W' → S ((listed.setIfInBounds i true).setIfInBounds j true) W') (h : ∀ W' b c, ST dd F w W' μ ((b, .cells z.cells t (0, 0)) :: (c, .cells T.cells A (0, 0)) :: L) → PX P n ops Q S fuel ((listed.setIfInBounds i true).setIfInBounds j true) (nE (nE E d (.pointer (some ⟨b, 0, none⟩))) m (.pointer (some ⟨c, 0, none⟩))) W') :
  PX P n ops Q S (fuel + 1 + 1) listed E W := by
 have k : (listed.setIfInBounds j true).setIfInBounds i true = (listed.setIfInBounds i true).setIfInBounds j true := Array.setIfInBounds_comm _ _ (fun e => by subst e; simp at u)
 have Z : d ≠ m := fun e => by subst e; simp at v
 refine Hs i j I J hr (.inl rfl) (.inl rfl) rfl rfl M q (lD o R (fun W1 b a => ⟨h1 _ (a.has.sub (lb.refl _) fun _ hp => .tail _ hp), ?_⟩)) (lD o s (fun W1 c a => ⟨Y _ (a.has.sub (lb.refl _) fun _ hp => .tail _ hp), ?_⟩))
 ·refine QP j J x (.inl rfl) rfl q (lD a s (fun W2 c g => ⟨G _ (g.has.sub (lb.refl _) fun _ hp => .tail _ (.tail _ hp)), ?_⟩))
  exact h W2 b c (g.perm (List.Perm.swap _ _ _))
 ·refine QP i I y (.inl rfl) rfl M (lD a R (fun W2 b g => ⟨?_, ?_⟩))
  ·rw [k]; exact G _ (g.has.sub (lb.refl _) fun _ hp => .tail _ (.tail _ hp))
  ·rw [k, ← Ti Z]; exact h W2 b c g
theorem rp {l : Array Bool} {i j : Nat} {A : Prop} (a : Nat.beq i j = false) (h : (l.setIfInBounds i true).getD j true = false → A) : l.getD j true = false → A := fun c => h (by
 rw [kp true (fun e => by subst e; simp at a)]; exact c)
end
theorem Fa.at {α : Type} {e : TypeId} {enc : α → List Value} {k : Nat} {v : Value} {l : List α} {R : List (Nat × Obj)} (h : kZ e enc k v l R) (hk : ∀ x, (enc x).length = k) {p : Value} {i : Nat} (hp : Fa R k p i) {x : α} (g : l[i]? = some x) : At (Cw R) p (enc x) := by
 obtain ⟨c, a, cap, rfl, rfl, _, _, _, _, rfl, d⟩ := Dm h hk hp g
 exact ⟨c, i * k, a, e, (0, 0), rfl, by simp [Cw], d⟩
theorem xp.form {κ β : Type} {kenc : κ → Value} {vf : β → Value} {μ : lq} {v : Value} {l : List (κ × β)} (h : xp kenc vf μ v l) : ∃ r, v = .map r := by
 rcases h with ⟨h, _⟩ | ⟨m, es, clock, h, _⟩
 ·exact ⟨_, h⟩
 ·exact ⟨_, h⟩
section
variable {P : Program} {W : World} {E : Nat → Value} {d : Option Nat} {ty : TypeId} {pos : String} {af : Array Edge} {g : Option (Nat × Bool)}
theorem LU {tx tv : TypeId} {x y : Operand} {α β : Type} {fv : Value} {μ : lq} {c : α → List Value} {m : β → Value} {pm : α → Option β} {s u : Array TypeId} {bb : Bool} (i : P.underlying tx = some (.func s u bb)) (h : tu P fv μ c m pm) (j : kJ E x = fv) (k : kJ E y = .nilFunc) :
  mA P E ⟨d, .binOp .eql tx x y tv, ty, pos, af, g⟩ W (.bool false) W := by
 obtain ⟨f, a, b, rfl⟩ := h.form
 exact OJ i j k
end
noncomputable def Jz {β : Type} (l : List (ByteArray × β)) : Option (List ByteArray) :=
 open Classical in if (l.map (·.1)).Nodup ∧ (∀ p ∈ l, p.1.size ≤ maxLen) ∧ l.length * 16 ≤ 140737488355328 then some (pd (l.map (·.1))) else none
def SH {κ κ2 β α : Type} (a : Nat) (mk : κ → κ2 → α) (l : List (κ × List (κ2 × β))) : Option (List α) :=
 if (l.flatMap (fun p => p.2.map (fun q => mk p.1 q.1))).length * a ≤ 140737488355328 ∧ (l.flatMap (fun p => p.2.map (fun q => mk p.1 q.1))).length ≤ maxLen then some (l.flatMap (fun p => p.2.map (fun q => mk p.1 q.1))) else none
section
variable {P : Program} {n : Nat} {Q : ov} {E : Nat → Value} {W : World} {ops : Array Oper} {rest : List Oper}
variable {dd : Bool} {α : Type} {enc : α → List Value} {k : Nat} {μ : lq} {v : Value}
variable {d : Option Nat} {ty : TypeId} {pos : String} {af : Array Edge} {g : Option (Nat × Bool)} {F : Nat → Prop} {w : World} {L : List (Nat × Obj)}
def vQ (enc : α → List Value) (k : Nat) : rH (List α) := fun μ ys x => ∃ v, ys = [v] ∧ Sl (Pl enc) k μ v x
theorem vQ.mono (enc : α → List Value) (k : Nat) : JE (vQ enc k) := fun _ _ _ _ c ⟨v, h1, a⟩ => ⟨v, h1, a.mono (Pl.mono _) c⟩
inductive Ef (enc : α → List Value) (k : Nat) (μ : lq) : List Value → List (List α) → Prop
 | nil : Ef enc k μ [] []
 | cons {v : Value} {x : List α} {vs : List Value} {l : List (List α)} : Sl (Pl enc) k μ v x → Ef enc k μ vs l → Ef enc k μ (v :: vs) (x :: l)
theorem Ef.length {vs : List Value} {l : List (List α)} (h : Ef enc k μ vs l) : vs.length = l.length := by
 induction h with
 | nil => rfl
 | cons _ _ ih => simp [ih]
theorem Ef.get {vs : List Value} {l : List (List α)} (h : Ef enc k μ vs l) : ∀ (i : Nat) (x : List α), l[i]? = some x → ∃ v, vs[i]? = some v ∧ Sl (Pl enc) k μ v x := by
 induction h with
 | nil => intro i x a; simp at a
 | cons h1 _ ih =>
  intro i x a
  cases i with
  | zero => simp at a; subst a; exact ⟨_, rfl, h1⟩
  | succ i => simpa using ih i x (by simpa using a)
theorem vQ.lit {b m : Nat} {vs : List Value} {e : TypeId} {l : List (List α)} (hm : l.length = m) (d : m ≤ maxLen) (g : μ b = some (.cells vs.toArray e (0, 0))) (h : Ef enc k μ vs l) : Sl (vQ enc k) 1 μ (.slice (some ⟨b, 0, none⟩) m m) l := by
 subst hm
 refine ⟨_, _, rfl, bD _, d, fun _ => ⟨b, 0, _, _, _, rfl, g, fun i x n => ?_⟩⟩
 obtain ⟨v, h1, c⟩ := h.get i x n
 refine ⟨[v], rfl, ⟨v, rfl, c⟩, fun j y a => ?_⟩
 cases j with
 | zero => simp at a; subst a; simpa using h1
 | succ j => simp at a
theorem F6 {k2 : Nat} {t e : TypeId} {x a : Operand} {u : IntKind} {i : Int} {l : List (List α)} {x0 : List α} (q : P.underlying t = some (.slice e)) (he : ∀ w, (sizeOf e).run P w = .ok 1 w) (s : kJ E x = v) (m : kJ E a = .int u i) (o : Sl (vQ enc k2) 1 μ v l) (c : 0 ≤ i) (n : l[i.toNat]? = some x0) :
  ∃ p, (∃ v0, At μ p [v0] ∧ Sl (Pl enc) k2 μ v0 x0) ∧ ∀ W, mA P E ⟨d, .indexAddr t x a, ty, pos, af, g⟩ W p W := by
 obtain ⟨p, ys, h1, ⟨v0, rfl, h⟩, j, k⟩ := KO (d := d) (ty := ty) (pos := pos) (af := af) (g := g) q he s m o c n
 exact ⟨p, ⟨v0, j, h⟩, k⟩
theorem NY {x : Operand} {t e : TypeId} (a : P.underlying t = some (.slice e)) (c : kJ E x = .slice none 0 0) : mA P E ⟨d, .call ⟨.builtin .cap, #[x], #[t]⟩, ty, pos, af, g⟩ W (.int .i64 0) W := by
 show (do let d ← resolve (kJ E) ⟨.builtin .cap, #[x], #[t]⟩ ty; invoke d.target d.args : Sem Next).run P W = _
 simp [resolve, invoke, builtin, Builtin.cap_, aT a, c, goInt]
theorem Ot {x y : Operand} {ats : Array TypeId} {k : IntKind} {a b : Int} (c : kJ E x = .int k a) (h : kJ E y = .int k b) :
  mA P E ⟨d, .call ⟨.builtin .max, #[x, y], ats⟩, ty, pos, af, g⟩ W (.int k (if b > a then b else a)) W := by
 show (do let d ← resolve (kJ E) ⟨.builtin .max, #[x, y], ats⟩ ty; invoke d.target d.args : Sem Next).run P W = _
 simp [resolve, invoke, c, h, builtin, Builtin.max_, Builtin.max2]
theorem Rz {t e : TypeId} {x ih : Operand} {i : IntKind} (c : P.underlying t = some (.slice e)) (he : ∀ w, (sizeOf e).run P w = .ok k w) (h : kJ E x = .slice none 0 0) (a : kJ E ih = .int i 0) :
  mA P E ⟨d, .slice t x none (some ih) none, ty, pos, af, g⟩ W (.slice none 0 0) W := by
 show (do pure (.value (← Instr.sliceAt t (kJ E x) none (some (kJ E ih)) none)) : Sem Next).run P W = _
 rw [h, a]
 simp [Instr.sliceAt, Instr.slice, Instr.sliceBounds, Instr.sliceBound, asIntOf, aT c, he W]
def Ki {α : Type} (a : Nat) (z : α) (n : Int) : Option (List α) := if 0 < n ∧ n * a ≤ 140737488355328 ∧ n ≤ (maxLen : Int) then some (List.replicate n.toNat z) else none
theorem Js (t m ty e : TypeId) (i : TypeInfo) (z : Value) (x : P.underlying t = some (.slice e)) (k : P.underlying m = some (.int .i64)) (s : P.info? e = some i) (y : i.zero = some z) (n : Nat) (o : 0 < n) (w : 0 < i.size) (q : n ≤ 9223372036854775807) (d : n * i.bytes ≤ 140737488355328) (W : World) :
  (Builtin.append_ #[t, m] ty #[.slice none 0 0, .int .i64 (n : Int)]).run P W =
   .ok (.slice (some ⟨W.heap.size, 0, none⟩) n (grownCap W n 0 e)) (W.drew.alloc (.cells (Builtin.zeroCells z.cells n ++ Builtin.zeroCells z.cells (grownCap W n 0 e - n)) e)) := by
 have hw : IntKind.i64.wrap (n : Int) = (n : Int) := by unfold IntKind.wrap; simp [IntKind.bits, IntKind.signed]; omega
 have h1 : ¬ ((n : Int) < 0) := by omega
 have a : ¬ (281474976710656 < (n : Int) * i.bytes) := by
  have := Int.ofNat_le.2 d
  rw [Int.natCast_mul] at this
  omega
 have g : ¬ (n * i.size = 0) := fun h => by rcases Nat.mul_eq_zero.1 h with h | h <;> omega
 have u : n ≠ 0 := by omega
 have v : i.size ≠ 0 := by omega
 have c : ¬ (9223372036854775807 < (n : Int)) := by omega
 have j : ¬ (281474976710656 < Builtin.nextslicecap n 0 * i.bytes) := by rw [nextslicecap_zero o]; omega
 simp [Builtin.append_, aT x, aT k, sizeOf, typeInfo, zeroValue, s, y, asInt, asIntOf, hw, h1, a, u, c, j, Question.forced, run_firstCells_none, newRow, grownCap]
 exact fun h => absurd h g
theorem M8 {K : Value → World → Prop} {α : Type} {e t D : TypeId} {enc : α → List Value} {k s : Nat} {c : Value} {n : Int} {z : α} {r : List α} (X : List (Nat × Obj)) {Y : List (Nat × Obj)} {x y : Operand} {i : TypeInfo} (j : ST dd F w W μ (X ++ Y)) (hk : ∀ x, (enc x).length = k) (U : 0 < k) (ht : P.underlying t = some (.slice e)) (a6 : P.underlying D = some (.int .i64)) (hi : P.info? e = some i) (hz : i.zero = some c) (a1 : i.size = k) (M : i.bytes = s) (hc : c.cells = (enc z).toArray) (hx : kJ E x = .slice none 0 0) (hy : kJ E y = .int .i64 n) (a : Ki s z n = some r) (h : ∀ W' v' R', ST dd F w W' μ (X ++ (R' ++ Y)) → kZ e enc k v' r R' → K v' W') : nN P E ⟨d, .call ⟨.builtin .append, #[x, y], #[t, D]⟩, ty, pos, af, g⟩ W K := by
 unfold Ki at a
 split at a
 case isFalse => cases a
 rename_i L
 cases a
 obtain ⟨n, rfl⟩ : ∃ m : Nat, n = (m : Int) := ⟨n.toNat, by omega⟩
 have Z : 0 < n := by omega
 subst a1; subst M
 have hM : n ≤ maxLen := by omega
 have J : n ≤ 9223372036854775807 := by simp only [maxLen] at hM; omega
 have I : n * i.bytes ≤ 140737488355328 := Int.ofNat_le.1 (by rw [Int.natCast_mul]; exact L.2.1)
 have hr := Js (P := P) t D ty e i c ht a6 hi hz n Z U J I W
 have v : (execOp (kJ E) ⟨d, .call ⟨.builtin .append, #[x, y], #[t, D]⟩, ty, pos, af, g⟩).run P W = .ok (.value (.slice (some ⟨W.heap.size, 0, none⟩) n (grownCap W n 0 e))) (W.drew.alloc (.cells (Builtin.zeroCells c.cells n ++ Builtin.zeroCells c.cells (grownCap W n 0 e - n)) e)) := by
  show (do let d ← resolve (kJ E) ⟨.builtin .append, #[x, y], #[t, D]⟩ ty; invoke d.target d.args : Sem Next).run P W = _
  simp [resolve, invoke, builtin, hx, hy, hr]
 have R := pp _ _ _ _ hr
 refine .inl ⟨_, _, v, ?_⟩
 have T := grownCap_ge W n 0 e
 have Q : grownCap W n 0 e ≤ maxLen := jd W n 0 e hM
 have a7 : ∀ m, (Builtin.zeroCells c.cells m).toList = (List.replicate m (enc z)).flatten := fun m => by rw [hc, Fp]
 have A : c.cells.size = i.size := by rw [hc, cN, hk]
 have q : kZ e enc i.size (.slice (some ⟨W.heap.size, 0, none⟩) n (grownCap W n 0 e)) (List.replicate n z) [(W.heap.size, .cells (Builtin.zeroCells c.cells n ++ Builtin.zeroCells c.cells (grownCap W n 0 e - n)) e (0, 0))] := by
  refine .inr ⟨W.heap.size, grownCap W n 0 e, _, by rw [ie], rfl, by simpa using T, Q, ?_, ?_⟩
  ·simp only [Array.size_append, size_zeroCells, A, ← cC]
   congr 1
   omega
  ·have G : (Builtin.zeroCells c.cells n).toList.length = n * i.size := by rw [cR, size_zeroCells, A]
   rw [ie, Array.toList_append, ← G, gF, a7, je]
 refine h _ _ _ ?_ q
 have hex : Ex dd W (W.drew.alloc (.cells (Builtin.zeroCells c.cells n ++ Builtin.zeroCells c.cells (grownCap W n 0 e - n)) e)) := ⟨rfl, rfl, rfl, vc.of R, by simp, fun b a => heap_alloc_old W.drew _ a⟩
 have h1 := j.Ia hex
 have u := h1.nd
 refine ⟨h1.os, h1.tape, h1.output, h1.drawn, h1.size, h1.ng, h1.mem, fun b o a => ?_, ?_⟩
 ·simp only [aR, aN] at a
  rcases a with a | a | a
  ·exact h1.box b o (by simp [a])
  ·cases a
   refine ⟨heap_alloc_new W.drew _, ?_, .inl j.size⟩
   cases hm : μ W.heap.size with
   | none => rfl
   | some x => have := j.FV hm; omega
  ·exact h1.box b o (by simp [a])
 ·simp only [cq, bE, fp, de] at u ⊢
  refine (fX fg).2 (cL.2 ⟨fun hm => ?_, u⟩)
  rw [← cq] at hm
  obtain ⟨⟨b, o⟩, a, G⟩ := bI.1 hm
  have := j.G2 a
  simp at G
  omega
end
theorem zT {p : Prop} [Decidable p] {u : Unit} (h : nM (decide p) = some u) : p := gG (IT h)
section
variable {P : Program} {E : Nat → Value} {W : World} {d : Option Nat} {ty : TypeId} {pos : String} {af : Array Edge} {g : Option (Nat × Bool)}
 {F : Nat → Prop} {w : World} {μ : lq} {L : List (Nat × Obj)} {α : Type} {e : TypeId} {enc : α → List Value} {k : Nat} {v : Value} {l : List α} {R : List (Nat × Obj)} {dd : Bool}
def Cx {α : Type} (l : List α) (i j : Nat) : List α := l.take i ++ l.drop j ++ l.drop (l.length - (j - i))
theorem ER {α : Type} (l : List α) {i j : Nat} (a : i ≤ j) (c : j ≤ l.length) : (Cx l i j).length = l.length := by
 simp [Cx]; omega
theorem Lh (hk : ∀ x, (enc x).length = k) (l : List α) (i : Nat) (c : i ≤ l.length) : (l.map enc).flatten.drop (i * k) = ((l.drop i).map enc).flatten := by
 have h1 : (l.map enc).flatten = ((l.take i).map enc).flatten ++ ((l.drop i).map enc).flatten := by rw [← fY, ← cq, fE]
 have a : ((l.take i).map enc).flatten.length = i * k := by rw [pN hk, cz, cP c]
 rw [h1, ← a, List.drop_left]
theorem Oi {K : Value → World → Prop} (X : List (Nat × Obj)) {Y : List (Nat × Obj)} {t : TypeId} {x y : Operand} {i j : Nat} {v1 u : Value} {ti : TypeInfo} (J : ST dd F w W μ (X ++ (R ++ Y))) (h : kZ e enc k v l R) (h1 : kZ e enc k v1 (l.take i) R) (hk : ∀ x, (enc x).length = k) (ai : 0 < k) (ae : ∀ x, ∀ u ∈ enc x, u.oneCell' = true) (ht : P.underlying t = some (.slice e)) (hi : P.info? e = some ti) (a7 : ti.size = k) (L : i ≤ j) (hj : j ≤ l.length) (hu : EF k v j u) (hx : kJ E x = v1) (hy : kJ E y = u) (hK : ∀ W' v' R', ST dd F w W' μ (X ++ (R' ++ Y)) → kZ e enc k v (Cx l i j) R' → kZ e enc k v' (l.take i ++ l.drop j) R' → K v' W') : nN P E ⟨d, .call ⟨.builtin .append, #[x, y], #[t, t]⟩, ty, pos, af, g⟩ W K := by
 have D : ∀ (V : Value) (W' : World), (Builtin.append_ #[t, t] ty #[v1, u]).run P W = .ok V W' → (execOp (kJ E) ⟨d, .call ⟨.builtin .append, #[x, y], #[t, t]⟩, ty, pos, af, g⟩).run P W = .ok (.value V) W' := by
  intro V W' hV
  show (do let d ← resolve (kJ E) ⟨.builtin .append, #[x, y], #[t, t]⟩ ty; invoke d.target d.args : Sem Next).run P W = _
  simp [resolve, invoke, builtin, hx, hy, hV]
 obtain ⟨A, n, c, A', c', e1, rfl, h7, h8⟩ := hu
 rcases h with ⟨rfl, rfl, rfl⟩ | ⟨G, cap, m, rfl, rfl, q1, q2, q3, q4⟩
 ·cases e1
  have an : v1 = .slice none 0 0 := by
   rcases h1 with ⟨h, _, _⟩ | ⟨_, _, _, _, h, _⟩
   ·exact h
   ·cases h
  subst an
  refine .inl ⟨_, W, D (.slice none 0 0) W ?_, hK W _ [] J (by simpa [Cx] using kZ.nil e enc k) (by simpa using kZ.nil e enc k)⟩
  cases A' <;> simp [Builtin.append_, aT ht, sizeOf, typeInfo, hi, Builtin.lenOf, Builtin.firstCells, loadCells, loadCellsFrom]
 ·cases e1
  obtain ⟨g1, a, z, rfl, eR, a1, a2, a3, a4⟩ : ∃ g1 a z, v1 = .slice (some ⟨g1, 0, none⟩) (l.take i).length a ∧ [(G, Obj.cells m e (0, 0))] = [(g1, .cells z e (0, 0))] ∧ (l.take i).length ≤ a ∧ a ≤ maxLen ∧ z.size = a * k ∧ z.toList.take ((l.take i).length * k) = ((l.take i).map enc).flatten := by
   rcases h1 with ⟨_, _, h⟩ | h
   ·cases h
   ·exact h
  cases eR
  have a8 : a = c := fN ai (a3.symm.trans q3)
  subst a8
  have s : (l.take i).length = i := by rw [cz]; omega
  rw [s] at a1 a4 D
  have hb := (J.box G (.cells m e (0, 0)) (by simp)).1
  by_cases aj : j < l.length
  ·obtain ⟨b, o, e2, rfl⟩ := h8 aj
   cases e2
   have Q : (((l.drop j).map enc).flatten).length = (l.length - j) * k := by rw [pN hk, dt]
   have e0 : m.toList.length = a * k := by simpa using q3
   have au : l.length * k ≤ a * k := cn _ q1
   have ar : j * k ≤ l.length * k := cn _ hj
   have aq : i * k ≤ j * k := cn _ L
   have ap : (l.length - j) * k = l.length * k - j * k := Nat.sub_mul _ _ _
   have ag : (m.toList.take (l.length * k)).drop (j * k) = ((l.drop j).map enc).flatten := by rw [q4, Lh hk l j hj]
   have Z : ∀ q u, (((l.drop j).map enc).flatten)[q]? = some u → W.cell? (Addr.add ⟨G, 0 + j * k, none⟩ q) = some u := by
    intro q u hq
    rw [dq, fJ W G (0 + j * k + q) m e (0, 0) hb, dg]
    rw [← ag, dz] at hq
    have ad : j * k + q < l.length * k := by
     have := (bB.1 hq).1
     rw [cz] at this
     omega
    rw [dD ad] at hq
    simpa using hq
   have a6 : ∀ u ∈ ((l.drop j).map enc).flatten, u.oneCell' = true := by
    intro u hu
    obtain ⟨ys, ao, ak⟩ := iq.1 hu
    obtain ⟨x, _, rfl⟩ := bI.1 ao
    exact ae x u ak
   have hr := run_append_room (P := P) W t ty e ti ht hi G i a m hb ⟨G, 0 + j * k, none⟩ (l.length - j) c' _ (by rw [a7, Q]) Z a6 (by omega) (by rw [a7, Q]; simp only [cR] at e0; omega)
   rw [a7, Q] at hr
   have hS := ST.store (A := X) (b := G) (cs := m) (t := e) (B := Y) J (m.toList.take (i * k) ++ ((l.drop j).map enc).flatten ++ m.toList.drop (i * k + (l.length - j) * k)).toArray
   have ab : m.toList.take (i * k) = ((l.take i).map enc).flatten := a4
   have M : (m.toList.take (i * k) ++ ((l.drop j).map enc).flatten).length = (i + (l.length - j)) * k := by rw [aI, cz, Q, e0, cP (by omega), cC]
   have I : (m.toList.take (i * k) ++ ((l.drop j).map enc).flatten ++ m.toList.drop (i * k + (l.length - j) * k)).length = a * k := by
    rw [aI, M, dt, e0, cC]; omega
   refine .inl ⟨_, _, D _ _ hr, hK _ _ [(G, .cells _ e (0, 0))] hS (.inr ⟨G, a, _, by rw [ER l L hj], rfl, by rw [ER l L hj]; exact q1, q2, by rw [cN, I], ?_⟩) (.inr ⟨G, a, _, by rw [aI, s, dt], rfl, by rw [aI, s, dt]; omega, q2, by rw [cN, I], ?_⟩)⟩
   ·rw [ER l L hj]
    show List.take (l.length * k) (m.toList.take (i * k) ++ ((l.drop j).map enc).flatten ++ m.toList.drop (i * k + (l.length - j) * k)) = _
    have T : l.length * k = (i + (l.length - j)) * k + (j - i) * k := by rw [← cC]; congr 1; omega
    have hm : (l.length - (j - i)) * k = i * k + (l.length - j) * k := by rw [← cC]; congr 1; omega
    have U : (m.toList.drop (i * k + (l.length - j) * k)).take ((j - i) * k) = ((l.drop (l.length - (j - i))).map enc).flatten := by
     rw [← hm, ← Lh hk l _ (by omega), ← q4, gA]
     congr 1
     rw [← Nat.sub_mul]; congr 1; omega
    rw [T, eF, M, Nat.add_sub_cancel_left, cV (by rw [M]; omega), U, ab]
    simp [Cx, aV]
   ·rw [aI, s, dt]
    show List.take ((i + (l.length - j)) * k) (m.toList.take (i * k) ++ ((l.drop j).map enc).flatten ++ m.toList.drop (i * k + (l.length - j) * k)) = _
    rw [← M, gF, ab]
    simp
  ·have ah : j = l.length := by omega
   subst ah
   have aa : Cx l i l.length = l := by
    unfold Cx
    rw [show l.length - (l.length - i) = i by omega, aG, ct, fE]
   refine .inl ⟨.slice (some ⟨G, 0, none⟩) i a, W, D _ W ?_, hK W _ _ J (by rw [aa]; exact .inr ⟨G, a, m, rfl, rfl, q1, q2, q3, q4⟩) (.inr ⟨G, a, m, by simp [s], rfl, by simpa [s] using a1, q2, q3, by simpa [s] using a4⟩)⟩
   cases A' <;> simp [Builtin.append_, aT ht, sizeOf, typeInfo, hi, Builtin.lenOf, Builtin.firstCells, loadCells, loadCellsFrom, storeCells, a1]
theorem Sm {i : List α} {A : Value} {t : TypeId} {x m ih : Operand} {ik z : IntKind} {a b : Int} (J : P.underlying t = some (.slice e)) (he : ∀ w, (sizeOf e).run P w = .ok k w) (s : 0 < k) (U : kZ e enc k v l R) (h1 : kZ e enc k A i R) (L : kJ E x = A) (I : kJ E m = .int ik a) (G : kJ E ih = .int z b) (ha : 0 ≤ a) (Y : a ≤ b) (Z : b = (l.length : Int)) (o : a = (i.length : Int)) : ∃ u, EF k v a.toNat u ∧ ∀ W, mA P E ⟨d, .slice t x (some m) (some ih) none, ty, pos, af, g⟩ W u W := by
 subst o; subst Z
 have hle : i.length ≤ l.length := by omega
 rcases U with ⟨rfl, rfl, rfl⟩ | ⟨n, cap, M, rfl, rfl, q1, q2, q3, q4⟩
 ·have hv : A = .slice none 0 0 ∧ i = [] := by
   rcases h1 with ⟨h, T, _⟩ | ⟨_, _, _, _, h, _⟩
   ·exact ⟨h, T⟩
   ·cases h
  obtain ⟨rfl, rfl⟩ := hv
  refine ⟨.slice none 0 0, ⟨none, 0, 0, none, 0, rfl, rfl, bD _, fun h => absurd h (by simp)⟩, fun W => ?_⟩
  show (do pure (.value (← Instr.sliceAt t (kJ E x) (some (kJ E m)) (some (kJ E ih)) none)) : Sem Next).run P W = _
  rw [L, I, G]
  simp [Instr.sliceAt, Instr.slice, Instr.sliceBounds, Instr.sliceBound, asIntOf, aT J, he W]
 ·rcases h1 with ⟨_, _, h⟩ | ⟨g1, c, D, rfl, Q, a1, a2, a3, a4⟩
  ·cases h
  cases Q
  have j : c = cap := fN s (a3.symm.trans q3)
  subst j
  refine ⟨.slice (some (if c = i.length then ⟨n, 0, none⟩ else (Addr.add ⟨n, 0, none⟩ (i.length * k)))) (l.length - i.length) (c - i.length), ⟨_, _, _, _, _, rfl, rfl, by simpa using hle, fun y => ⟨n, 0, rfl, ?_⟩⟩, fun W => ?_⟩
  ·simp only [eu] at y ⊢
   rw [aJ (by omega)]; simp [dq]
  ·show (do pure (.value (← Instr.sliceAt t (kJ E x) (some (kJ E m)) (some (kJ E ih)) none)) : Sem Next).run P W = _
   rw [L, I, G]
   have q : (i.length : Int) ≤ (l.length : Int) ∧ (l.length : Int) ≤ (c : Int) := ⟨by omega, by omega⟩
   simp [Instr.sliceAt, Instr.slice, Instr.sliceBounds, Instr.sliceBound, asIntOf, aT J, he W, q, hle, q1]
   split <;> rfl
theorem Tj {t : TypeId} {x c ih h : Operand} {U o q : IntKind} {a b m : Int} (A : P.underlying t = some (.slice e)) (he : ∀ w, (sizeOf e).run P w = .ok k w) (Q : kZ e enc k v l R) (D : kJ E x = v) (z : kJ E c = .int U a) (y : kJ E ih = .int o b) (hm : kJ E h = .int q m) (ha : 0 ≤ a) (T : a ≤ b) (Y : b ≤ m) (j : m ≤ (l.length : Int)) : ∃ u, True ∧ ∀ W, mA P E ⟨d, .slice t x (some c) (some ih) (some h), ty, pos, af, g⟩ W u W := by
 obtain ⟨a, rfl⟩ : ∃ n : Nat, a = (n : Int) := ⟨a.toNat, by omega⟩
 obtain ⟨b, rfl⟩ : ∃ n : Nat, b = (n : Int) := ⟨b.toNat, by omega⟩
 obtain ⟨m, rfl⟩ : ∃ n : Nat, m = (n : Int) := ⟨m.toNat, by omega⟩
 have I : a ≤ b := by omega
 have J : b ≤ m := by omega
 rcases Q with ⟨rfl, rfl, rfl⟩ | ⟨s, cap, G, rfl, rfl, Z, q2, q3, q4⟩
 ·have i : m = 0 := by simp at j; omega
  subst i
  have L : b = 0 := by omega
  subst L
  have M : a = 0 := by omega
  subst M
  refine ⟨.slice none 0 0, trivial, fun W => ?_⟩
  show (do pure (.value (← Instr.sliceAt t (kJ E x) (some (kJ E c)) (some (kJ E ih)) (some (kJ E h)))) : Sem Next).run P W = _
  rw [D, z, y, hm]
  simp [Instr.sliceAt, Instr.slice, Instr.sliceBounds, Instr.sliceBound, asIntOf, aT A, he W]
 ·have i : m ≤ cap := by omega
  refine ⟨.slice (if m = a then some ⟨s, 0, none⟩ else some (Addr.add ⟨s, 0, none⟩ (a * k))) (b - a) (m - a), trivial, fun W => ?_⟩
  show (do pure (.value (← Instr.sliceAt t (kJ E x) (some (kJ E c)) (some (kJ E ih)) (some (kJ E h)))) : Sem Next).run P W = _
  rw [D, z, y, hm]
  simp [Instr.sliceAt, Instr.slice, Instr.sliceBounds, Instr.sliceBound, asIntOf, aT A, he W, I, J, i]
theorem kZ.Tl {i c : List α} {t : Value} {R2 : List (Nat × Obj)} (m : 0 < k) (hk : ∀ x, (enc x).length = k) (G : kZ e enc k v l R) (h1 : kZ e enc k t c R) (q : kZ e enc k v i R2) (s : c.length ≤ i.length) : kZ e enc k t (i.take c.length) R2 := by
 rcases G with ⟨rfl, rfl, rfl⟩ | ⟨E, cap, A, rfl, rfl, M, P, I, Q⟩
 ·rcases h1 with ⟨rfl, rfl, _⟩ | ⟨_, _, _, _, h, _⟩
  ·rcases q with ⟨_, rfl, rfl⟩ | ⟨_, _, _, h, _⟩
   ·exact kZ.nil e enc k
   ·cases h
  ·cases h
 ·rcases h1 with ⟨_, _, h⟩ | ⟨g1, a, o, rfl, D, u, a2, a3, a4⟩
  ·cases h
  cases D
  have g : a = cap := fN m (a3.symm.trans I)
  subst g
  rcases q with ⟨h, _⟩ | ⟨g2, n, d, h, rfl, J, w, y, z⟩
  ·cases h
  ·simp only [Value.slice.injEq, gD, Addr.mk.injEq] at h
   obtain ⟨⟨rfl, _, _⟩, L, rfl⟩ := h
   have j : (i.take c.length).length = c.length := by rw [cz]; omega
   refine .inr ⟨E, a, d, by rw [j], rfl, by rw [j]; exact u, w, y, ?_⟩
   rw [j, En hk i c.length s, ← z, eK, cP (cn _ s)]
end
section
variable {x y : Nat × Obj} {A B C L R S : List (Nat × Obj)}
theorem Pz : (x :: A).Perm (x :: A) := .refl _
theorem Pb (h : A.Perm (x :: B)) : (y :: A).Perm (x :: y :: B) := (h.cons y).trans (.swap ..)
theorem Pr (h : A.Perm (x :: B)) : (S ++ A).Perm (x :: (S ++ B)) := (h.append_left S).trans fg
theorem Qz : (R ++ A).Perm (R ++ A) := .refl _
theorem Qb (h : A.Perm (R ++ B)) : (y :: A).Perm (R ++ (y :: B)) := (h.cons y).trans List.perm_middle.symm
theorem Qr (h : A.Perm (R ++ B)) : (S ++ A).Perm (R ++ (S ++ B)) := (h.append_left S).trans (iX S R B)
def ny (L L' : List (Nat × Obj)) : Prop := ∃ M, L.Perm (L' ++ M)
theorem Sn : ny L [] := ⟨L, .refl _⟩
theorem St : ny L L := ⟨[], by rw [ct]⟩
theorem Sb (h : L.Perm (x :: A)) (k : ny A B) : ny L (x :: B) := let ⟨M, m⟩ := k; ⟨M, h.trans (m.cons x)⟩
theorem Sr (h : L.Perm (R ++ A)) (k : ny A B) : ny L (R ++ B) := let ⟨M, m⟩ := k; ⟨M, by rw [aV]; exact h.trans (m.append_left R)⟩
theorem Kb (k : ny A B) : ny (x :: A) (x :: B) := Sb Pz k
theorem Kr (k : ny A B) : ny (R ++ A) (R ++ B) := Sr Qz k
theorem Db (k : ny A B) : ny (x :: A) B := let ⟨M, m⟩ := k; ⟨x :: M, (m.cons x).trans List.perm_middle.symm⟩
theorem Dr (k : ny A B) : ny (R ++ A) B := let ⟨M, m⟩ := k; ⟨R ++ M, (m.append_left R).trans (iX R B M)⟩
theorem ny.mem (s : ny L A) : ∀ p, p ∈ A → p ∈ L := fun p hp => let ⟨M, m⟩ := s; m.mem_iff.2 (bF _ hp)
theorem ST.kD {dd : Bool} {F : Nat → Prop} {w W : World} {μ : lq} (h : ST dd F w W μ L) (s : ny L A) : ST dd F w W μ A := let ⟨M, m⟩ := s; (h.perm m).sublist (List.sublist_append_left A M)
theorem rY.kD {μ : lq} {W : World} (h : rY μ L W) (s : ny L A) : rY μ A W := h.sub (lb.refl _) s.mem
theorem rY.sL {μ μ' : lq} {W : World} (h : rY μ L W) (a : lb μ' μ) (s : ny L A) : rY μ' A W := h.sub a s.mem
theorem Cn : L.Perm ([] ++ L) := .refl _
theorem Cb (h : L.Perm (x :: A)) (k : A.Perm (B ++ C)) : L.Perm ((x :: B) ++ C) := h.trans (k.cons x)
theorem Cr (h : L.Perm (R ++ A)) (k : A.Perm (B ++ C)) : L.Perm ((R ++ B) ++ C) := by rw [aV]; exact h.trans (k.append_left R)
theorem C0 (k : L.Perm (B ++ C)) : L.Perm (([] ++ B) ++ C) := k
theorem Tn : ([] ++ A).Perm A := .refl _
theorem Tb (h : (A ++ B).Perm C) : ((x :: A) ++ B).Perm (x :: C) := h.cons x
theorem Tr (h : (A ++ B).Perm C) : ((R ++ A) ++ B).Perm (R ++ C) := by rw [aV]; exact h.append_left R
theorem Nb (h : L.Perm (x :: A)) (k : A.Perm B) : L.Perm (x :: B) := h.trans (k.cons x)
theorem Nr (h : L.Perm (R ++ A)) (k : A.Perm B) : L.Perm (R ++ B) := h.trans (k.append_left R)
theorem Nz : L.Perm L := .refl _
theorem ZA {R' R1 : List (Nat × Obj)} (hp : R.Perm (R' ++ R1)) : (R ++ A).Perm (R' ++ (R1 ++ A)) := by rw [← aV]; exact hp.append_right A
theorem Mh : x ∈ x :: A := .head _
theorem Mt (h : x ∈ A) : x ∈ y :: A := .tail _ h
theorem Ma (h : x ∈ A) : x ∈ R ++ A := cy _ h
theorem Ml (h : x ∈ R) : x ∈ R ++ A := bF _ h
end
section
variable {dd : Bool} {F : Nat → Prop} {w W : World} {μ : lq} {L L0 L1 Y R : List (Nat × Obj)}
theorem ST.NP (h : ST dd lu w W μ L) (s : ny L L1) : sR dd [] L1 w W := let ⟨_, m⟩ := s; (h.perm m).Yu
theorem ST.mQ (h : ST dd (keys L0) w W μ L) (s : ny L L1) : sR dd L0 L1 w W := let ⟨_, m⟩ := s; (h.perm m).YC
theorem ST.A2 : ∀ {R : List (Nat × Obj)} {μ : lq}, ST dd F w W μ (R ++ Y) → ∃ μ', ST dd F w W μ' Y ∧ lb μ μ' ∧ Lo F w μ μ' ∧ ∀ b o, (b, o) ∈ R → μ' b = some o
 | [], μ, h => ⟨μ, h, lb.refl _, Lo.refl, fun _ _ h => by cases h⟩
 | (g, o) :: R, μ, h => by
  have c : ST dd F w W μ ([] ++ (g, o) :: (R ++ Y)) := h
  obtain ⟨μ', d, a2, a3, a4⟩ := ST.A2 (R := R) (ST.KN (A := []) c)
  refine ⟨μ', d, (ST.Ku (A := []) c).trans a2, (ST.SL (A := []) c).trans a3, fun b i a => ?_⟩
  rcases aQ.1 a with a | a
  ·cases a; exact a2 _ _ (aK rfl)
  ·exact a4 b i a
theorem ST.Bf {α : Type} {e' : TypeId} {enc : α → List Value} {k : Nat} {v : Value} {l : List α} (a : ST dd F w W μ (R ++ Y)) (h : kZ e' enc k v l R) (hk : ∀ x, (enc x).length = k) : ∃ μ', ST dd F w W μ' Y ∧ lb μ μ' ∧ Lo F w μ μ' ∧ Sl (Pl enc) k μ' v l := by
 obtain ⟨μ', c, a2, a3, a4⟩ := ST.A2 a
 exact ⟨μ', c, a2, a3, h.sl hk a4⟩
section
variable {P : Program} {n : Nat} {Q : ov} {E : Nat → Value} {V : World} {id : Nat} {l : List Oper} {A B C : List (Nat × Obj)}
theorem lN (a : rY μ A V.drew) (hm : P.follows .mixedOrders = true) (h : PX P n l.toArray Q (fun _ W => rY μ A W) l.length (Array.replicate l.length false) E V.drew) : CW P n (.region id l.toArray true) Q E V := N6 _ hm h
theorem B9 (i : Nat) (a : rY μ A V.drew) (h1 : rY μ B V.drew) (hm : P.follows .mixedOrders = true) (h : PX P n l.toArray Q (fun l W => rY μ A W ∧ (l.getD i true = false → rY μ B W)) l.length (Array.replicate l.length false) E V.drew) : CW P n (.region id l.toArray true) Q E V := N6 _ hm h
end
structure pY (μ : lq) (L0 : List (Nat × Obj)) (w : World) : Prop where
 H : E1 L0 w
 N : (L0.map (·.1)).Nodup
 S : lb μ (sS w L0)
theorem ST.xD (h : pY μ L0 w) : ST dd (keys L0) w w μ L0 := (ST.XF h.H h.N).mz h.S
end
section
variable {dd : Bool} {P : Program} {E : Nat → Value} {W : World} {d : Option Nat} {ty : TypeId} {pos : String} {af : Array Edge} {g : Option (Nat × Bool)} {F : Nat → Prop} {w : World} {μ : lq} {L : List (Nat × Obj)}
theorem lh {K : Value → World → Prop} {B : List (Nat × Obj)} {t : TypeId} {x y : Operand} (v : Value) {b off : Nat} {cs : Array Value} {T : TypeId} (cs' : Array Value) (a : ST dd F w W μ ((b, .cells cs T (0, 0)) :: B)) (k : kJ E x = .pointer (some ⟨b, off, none⟩)) (m : kJ E y = v) (c : ∀ w, (sizeOf t).run P w = .ok v.cells.size w) (h1 : ∀ u ∈ v.cells.toList, u.oneCell' = true) (j : off + v.cells.size ≤ cs.size) (i : (cs.toList.take off ++ v.cells.toList ++ cs.toList.drop (off + v.cells.size)).toArray = cs') (h : ∀ W', ST dd F w W' μ ((b, .cells cs' T (0, 0)) :: B) → K undef W') : nN P E ⟨d, .store t x y, ty, pos, af, g⟩ W K := Di [] v cs' a k m c h1 j i h
end
section
variable {dd : Bool}
variable {P : Program} {n : Nat} {Q : ov} {E : Nat → Value} {W : World} {ops : Array Oper} {rest : List Oper}
 {d : Option Nat} {ty : TypeId} {pos : String} {af : Array Edge} {g : Option (Nat × Bool)}
 {F : Nat → Prop} {w : World} {μ : lq} {L : List (Nat × Obj)}
theorem mD {K : Value → World → Prop} {α : Type} {e t : TypeId} {enc : α → List Value} {k a : Nat} {z v vs : Value} {l m r : List α} {R Y : List (Nat × Obj)} {x y : Operand} {i : TypeInfo} (c : ST dd F w W μ (R ++ Y)) (hk : ∀ x, (enc x).length = k) (n : 0 < k) (h1 : ∀ x, ∀ u ∈ enc x, u.oneCell' = true) (J : P.underlying t = some (.slice e)) (G : P.info? e = some i) (Q : i.zero = some z) (q : z.cells.size = k) (o : i.size = k) (j : i.bytes = a) (L : kJ E x = v) (M : kJ E y = vs) (A : kZ e enc k v l R) (I : Sl (Pl enc) k (hp W) vs m) (D : mM a l m = some r) (h : ∀ W' s R', ST dd F w W' μ (R' ++ Y) → kZ e enc k s r R' → K s W') : nN P E ⟨d, .call ⟨.builtin .append, #[x, y], #[t, t]⟩, ty, pos, af, g⟩ W K :=
 Nu [] c hk n h1 J G Q q o j L M A I D h
end
section
variable {dd : Bool}
variable {P : Program} {E : Nat → Value} {W : World} {d : Option Nat} {ty : TypeId} {pos : String} {af : Array Edge} {g : Option (Nat × Bool)}
 {F : Nat → Prop} {w : World} {μ : lq} {L : List (Nat × Obj)}
theorem Qu {K : Value → World → Prop} {α : Type} {e : TypeId} {enc : α → List Value} {k : Nat} {l : List α} {f : FuncId} {fv : Operand} {ax : Array Operand} {ats : Array TypeId} {caps : Array Value} {args : List Value} (Y : List (Nat × Obj)) (a : ST dd F w W μ Y) (i : kJ E fv = .func (.func f) #[] caps) (he : ∀ args w, (callFunc f args).run P w = .ok (.enter f args) w) (ha : ax.map (kJ E) ++ caps = args.toArray) (c : lT dd P f args W e enc k l) (h : ∀ W' v μ' R, ST dd F w W' μ' (R ++ Y) → lb μ μ' → Lo F w μ μ' → kZ e enc k v l R → K v W') : nN P E ⟨d, .call ⟨.value fv, ax, ats⟩, ty, pos, af, g⟩ W K :=
 QG [] Y a i he ha c h
end
section
variable {dd : Bool}
variable {P : Program} {E : Nat → Value} {W : World} {d : Option Nat} {ty : TypeId} {pos : String} {af : Array Edge} {g : Option (Nat × Bool)}
 {F : Nat → Prop} {w : World} {μ : lq} {L : List (Nat × Obj)} {α : Type} {e' : TypeId} {enc : α → List Value} {k : Nat} {v : Value} {l : List α} {R : List (Nat × Obj)}
theorem zi {K : Value → World → Prop} {Y : List (Nat × Obj)} {t : TypeId} {x y : Operand} {p u : Value} {i : Nat} {x0 x1 : α} (a : ST dd F w W μ (R ++ Y)) (h : kZ e' enc k v l R) (hk : ∀ x, (enc x).length = k) (h1 : ∀ x, ∀ u ∈ enc x, u.oneCell' = true) (n : kJ E x = p) (o : kJ E y = u) (hu : u.cells = (enc x1).toArray) (hp : Fa R k p i) (m : l[i]? = some x0) (j : ∀ w, (sizeOf t).run P w = .ok k w) (c : ∀ W' R', ST dd F w W' μ (R' ++ Y) → kZ e' enc k v (l.set i x1) R' → K undef W') : nN P E ⟨d, .store t x y, ty, pos, af, g⟩ W K :=
 QM [] a h hk h1 n o hu hp m j c
end
section
variable {dd : Bool}
variable {P : Program} {W : World} {κ : Type} {kt : TypeId} {kenc : κ → Value} {beq : κ → κ → Bool}
variable {β : Type} {vf : β → Value} {E : Nat → Value} {d : Option Nat} {ty : TypeId} {pos : String} {af : Array Edge} {g : Option (Nat × Bool)} {F : Nat → Prop} {w : World} {μ : lq} {L : List (Nat × Obj)}
theorem Iz {i : Value → World → Prop} {Y R : List (Nat × Obj)} {t e : TypeId} {m x y : Operand} {c : Value} {l : List (κ × β)} {k : κ} {v : β} (K : pC P kt kenc beq) (n : P.underlying t = some (.map kt e)) (a : ST dd F w W μ (R ++ Y)) (h : mx kenc vf c l R) (hm : kJ E m = c) (o : kJ E x = kenc k) (q : kJ E y = vf v) (j : ∀ W' R', ST dd F w W' μ (R' ++ Y) → mx kenc vf c (ow beq l k v) R' → i undef W') : nN P E ⟨d, .mapUpdate t m x y, ty, pos, af, g⟩ W i :=
 BX [] K n a h hm o q j
end
section
variable {dd : Bool}
variable {P : Program} {E : Nat → Value} {W : World} {d : Option Nat} {ty : TypeId} {pos : String} {af : Array Edge} {g : Option (Nat × Bool)}
 {F : Nat → Prop} {w : World} {μ : lq} {L : List (Nat × Obj)} {α : Type} {e' : TypeId} {enc : α → List Value} {k : Nat} {v : Value} {l : List α} {R : List (Nat × Obj)}
theorem yr {K : Value → World → Prop} (z : α) {Y : List (Nat × Obj)} {t e : TypeId} {x : Operand} {u c : Value} {i : Nat} (a : ST dd F w W μ (R ++ Y)) (h : kZ e' enc k v l R) (hk : ∀ x, (enc x).length = k) (h1 : ∀ x, ∀ u ∈ enc x, u.oneCell' = true) (n : P.underlying t = some (.slice e)) (q : ∀ w, (zeroValue e).run P w = .ok c w) (hu : EF k v i u) (m : c.cells = (enc z).toArray) (o : kJ E x = u) (j : ∀ W' R', ST dd F w W' μ (R' ++ Y) → kZ e' enc k v (oI l i z) R' → K (.tuple #[]) W') : nN P E ⟨d, .call ⟨.builtin .clear, #[x], #[t]⟩, ty, pos, af, g⟩ W K :=
 O8 z [] a h hk h1 n q hu m o j
end
section
variable {dd : Bool}
variable {κ γ : Type} {Q : Value → γ → List (Nat × Obj) → Prop} {beq : κ → κ → Bool} {kenc : κ → Value}
variable {P : Program} {W : World} {kt : TypeId} {E : Nat → Value} {d : Option Nat} {ty : TypeId} {pos : String} {af : Array Edge} {g : Option (Nat × Bool)} {F : Nat → Prop} {w : World} {μ : lq} {L : List (Nat × Obj)}
variable {κ2 β : Type} {kenc2 : κ2 → Value} {vf : β → Value} {beq2 : κ2 → κ2 → Bool} {kt2 : TypeId}
theorem RC {i : Value → World → Prop} {Y R : List (Nat × Obj)} {t e : TypeId} {m x y : Operand} {n : Value} {c : List (κ × Value)} {l j : List (κ × List (κ2 × β))} {k : κ} {k2 : κ2} {v : β} (hk : ∀ {x y : κ}, beq x y = true → x = y) (K : pC P kt2 kenc2 beq2) (s : P.underlying t = some (.map kt2 e)) (a : ST dd F w W μ (R ++ Y)) (h : nC kenc (mx kenc2 vf) n c l R) (hm : kJ E m = th beq c k (.map none)) (u : kJ E x = kenc2 k2) (z : kJ E y = vf v) (q : IY beq beq2 l k k2 v = some j) (o : ∀ W' R', ST dd F w W' μ (R' ++ Y) → nC kenc (mx kenc2 vf) n c j R' → i undef W') : nN P E ⟨d, .mapUpdate t m x y, ty, pos, af, g⟩ W i :=
 SY [] hk K s a h hm u z q o
end
section
variable {dd : Bool}
variable {κ γ : Type} {Q : Value → γ → List (Nat × Obj) → Prop} {beq : κ → κ → Bool} {kenc : κ → Value}
variable {P : Program} {W : World} {kt : TypeId} {E : Nat → Value} {d : Option Nat} {ty : TypeId} {pos : String} {af : Array Edge} {g : Option (Nat × Bool)} {F : Nat → Prop} {w : World} {μ : lq} {L : List (Nat × Obj)}
variable {κ2 β : Type} {kenc2 : κ2 → Value} {vf : β → Value} {beq2 : κ2 → κ2 → Bool} {kt2 : TypeId}
theorem Tg {i : Value → World → Prop} {Y R R2 : List (Nat × Obj)} {t e : TypeId} {m x y : Operand} {c : Value} {n : List (κ × Value)} {l j : List (κ × γ)} {k : κ} {u : Value} {z : γ} (K : pC P kt kenc beq) (v : P.underlying t = some (.map kt e)) (a : ST dd F w W μ (R ++ (R2 ++ Y))) (h : nC kenc Q c n l R) (hm : kJ E m = c) (A : kJ E x = kenc k) (D : kJ E y = u) (s : Q u z R2) (q : Jm beq l k z = some j) (o : ∀ W' R', ST dd F w W' μ (R' ++ Y) → nC kenc Q c (ow beq n k u) j R' → i undef W') : nN P E ⟨d, .mapUpdate t m x y, ty, pos, af, g⟩ W i :=
 RM [] K v a h hm A D s q o
end
section
variable {dd : Bool}
variable {κ γ : Type} {Q : Value → γ → List (Nat × Obj) → Prop} {beq : κ → κ → Bool} {kenc : κ → Value}
variable {P : Program} {W : World} {kt : TypeId} {E : Nat → Value} {d : Option Nat} {ty : TypeId} {pos : String} {af : Array Edge} {g : Option (Nat × Bool)} {F : Nat → Prop} {w : World} {μ : lq} {L : List (Nat × Obj)}
theorem WG {i : Value → World → Prop} {Y R R1 : List (Nat × Obj)} {t e : TypeId} {m x y : Operand} {c : Value} {j : List (κ × Value)} {l : List (κ × γ)} {k : κ} {u : Value} {z : γ} (K : pC P kt kenc beq) (q : P.underlying t = some (.map kt e)) (a : ST dd F w W μ (R ++ (R1 ++ Y))) (h : Rk beq kenc Q c j l k R) (hm : kJ E m = c) (s : kJ E x = kenc k) (v : kJ E y = u) (o : Q u z R1) (n : ∀ W' R', ST dd F w W' μ (R' ++ Y) → nC kenc Q c (ow beq j k u) (ow beq l k z) R' → i undef W') : nN P E ⟨d, .mapUpdate t m x y, ty, pos, af, g⟩ W i :=
 XS [] K q a h hm s v o n
end
section
variable {dd : Bool}
variable {κ γ : Type} {Q : Value → γ → List (Nat × Obj) → Prop} {beq : κ → κ → Bool} {kenc : κ → Value}
variable {P : Program} {W : World} {kt : TypeId} {E : Nat → Value} {d : Option Nat} {ty : TypeId} {pos : String} {af : Array Edge} {g : Option (Nat × Bool)} {F : Nat → Prop} {w : World} {μ : lq} {L : List (Nat × Obj)}
theorem QR {j : Value → World → Prop} {Y R : List (Nat × Obj)} {t e : TypeId} {m x : Operand} {i z : Value} {x0 : γ} {u : List (κ × Value)} {l : List (κ × γ)} {k : κ} (hk : ∀ {x y : κ}, beq x y = true ↔ x = y) (K : pC P kt kenc beq) (o : P.underlying t = some (.map kt e)) (s : ∀ w, (zeroValue e).run P w = .ok z w) (c : Q z x0 []) (a : ST dd F w W μ (R ++ Y)) (h : nC kenc Q i u l R) (hm : kJ E m = i) (q : kJ E x = kenc k) (n : ∀ W' v st R' R1, ST dd F w W' μ (R' ++ (R1 ++ Y)) → Q v ((mo beq l k).getD x0) R1 → MK beq kenc Q i l k st R' → j (.tuple #[v, .int .i64 (st : Nat)]) W') : nN P E ⟨d, .mapEntry t m x, ty, pos, af, g⟩ W j :=
 Q5 [] hk K o s c a h hm q n
end
section
variable {dd : Bool}
variable {κ γ : Type} {Q : Value → γ → List (Nat × Obj) → Prop} {beq : κ → κ → Bool} {kenc : κ → Value}
variable {P : Program} {W : World} {kt : TypeId} {E : Nat → Value} {d : Option Nat} {ty : TypeId} {pos : String} {af : Array Edge} {g : Option (Nat × Bool)} {F : Nat → Prop} {w : World} {μ : lq} {L : List (Nat × Obj)}
theorem OA {j : Value → World → Prop} {Y R R1 : List (Nat × Obj)} {t e : TypeId} {m s y : Operand} {i u : Value} {z : γ} {l : List (κ × γ)} {k : κ} {st : Nat} (hk : ∀ {x y : κ}, beq x y = true ↔ x = y) (K : pC P kt kenc beq) (a : ST dd F w W μ (R ++ (R1 ++ Y))) (h : MK beq kenc Q i l k st R) (hm : kJ E m = i) (q : kJ E s = .int .i64 (st : Nat)) (v : kJ E y = u) (o : Q u z R1) (n : ∀ W' c R', ST dd F w W' μ (R' ++ Y) → nC kenc Q i c (ow beq l k z) R' → j undef W') : nN P E ⟨d, .entryStore t m s y, ty, pos, af, g⟩ W j :=
 OB (e := e) [] hk K a h hm q v o n
end
section
variable {dd : Bool}
variable {α : Type} {e : TypeId} {enc : α → List Value} {k : Nat} {v : Value} {l : List α} {R : List (Nat × Obj)}
variable {P : Program} {W : World} {E : Nat → Value} {d : Option Nat} {ty : TypeId} {pos : String} {af : Array Edge} {g : Option (Nat × Bool)} {F : Nat → Prop} {w : World} {μ : lq} {L : List (Nat × Obj)}
theorem O5 {K : Value → World → Prop} {t : TypeId} {a : Nat} {z vs : Value} {m r : List α} {Y : List (Nat × Obj)} {x y : Operand} {i : TypeInfo} (c : ST dd F w W μ (R ++ Y)) (hk : ∀ x, (enc x).length = k) (n : 0 < k) (h1 : ∀ x, ∀ u ∈ enc x, u.oneCell' = true) (J : P.underlying t = some (.slice e)) (G : P.info? e = some i) (Q : i.zero = some z) (q : z.cells.size = k) (o : i.size = k) (j : i.bytes = a) (L : kJ E x = v) (M : kJ E y = vs) (A : qS e enc k v l R) (I : Sl (Pl enc) k (hp W) vs m) (D : mM a l m = some r) (h : ∀ W' s R', ST dd F w W' μ (R' ++ Y) → qS e enc k s r R' → K s W') : nN P E ⟨d, .call ⟨.builtin .append, #[x, y], #[t, t]⟩, ty, pos, af, g⟩ W K :=
 O2 [] c hk n h1 J G Q q o j L M A I D h
end
section
variable {P : Program} {n : Nat} {Q : ov} {E : Nat → Value} {W : World} {ops : Array Oper} {rest : List Oper}
variable {dd : Bool} {α : Type} {enc : α → List Value} {k : Nat} {μ : lq} {v : Value}
variable {d : Option Nat} {ty : TypeId} {pos : String} {af : Array Edge} {g : Option (Nat × Bool)} {F : Nat → Prop} {w : World} {L : List (Nat × Obj)}
theorem Nk {K : Value → World → Prop} {α : Type} {e t s : TypeId} {enc : α → List Value} {k a : Nat} {v : Value} {n : Int} {z : α} {r : List α} {Y : List (Nat × Obj)} {x y : Operand} {i : TypeInfo} (c : ST dd F w W μ Y) (hk : ∀ x, (enc x).length = k) (m : 0 < k) (I : P.underlying t = some (.slice e)) (q : P.underlying s = some (.int .i64)) (G : P.info? e = some i) (M : i.zero = some v) (o : i.size = k) (j : i.bytes = a) (D : v.cells = (enc z).toArray) (J : kJ E x = .slice none 0 0) (L : kJ E y = .int .i64 n) (A : Ki a z n = some r) (h : ∀ W' u R', ST dd F w W' μ (R' ++ Y) → kZ e enc k u r R' → K u W') : nN P E ⟨d, .call ⟨.builtin .append, #[x, y], #[t, s]⟩, ty, pos, af, g⟩ W K :=
 M8 [] c hk m I q G M o j D J L A h
end
section
variable {P : Program} {E : Nat → Value} {W : World} {d : Option Nat} {ty : TypeId} {pos : String} {af : Array Edge} {g : Option (Nat × Bool)}
 {F : Nat → Prop} {w : World} {μ : lq} {L : List (Nat × Obj)} {α : Type} {e : TypeId} {enc : α → List Value} {k : Nat} {v : Value} {l : List α} {R : List (Nat × Obj)} {dd : Bool}
theorem NO {K : Value → World → Prop} {Y : List (Nat × Obj)} {t : TypeId} {x y : Operand} {i j : Nat} {v1 u : Value} {q : TypeInfo} (c : ST dd F w W μ (R ++ Y)) (h : kZ e enc k v l R) (h1 : kZ e enc k v1 (l.take i) R) (hk : ∀ x, (enc x).length = k) (n : 0 < k) (a : ∀ x, ∀ u ∈ enc x, u.oneCell' = true) (G : P.underlying t = some (.slice e)) (A : P.info? e = some q) (o : q.size = k) (m : i ≤ j) (D : j ≤ l.length) (hu : EF k v j u) (I : kJ E x = v1) (J : kJ E y = u) (z : ∀ W' s R', ST dd F w W' μ (R' ++ Y) → kZ e enc k v (Cx l i j) R' → kZ e enc k s (l.take i ++ l.drop j) R' → K s W') : nN P E ⟨d, .call ⟨.builtin .append, #[x, y], #[t, t]⟩, ty, pos, af, g⟩ W K :=
 Oi [] c h h1 hk n a G A o m D hu I J z
end
section
variable {P : Program} {n : Nat} {Q : ov} {E : Nat → Value} {W : World} {ops : Array Oper} {rest : List Oper}
variable {d j t : Nat} {want : Bool} {v : Value} {ins : Go.Op} {ty : TypeId} {pos : String} {af : Array Edge} {A : Value → Prop}
theorem V (c : mA P E ⟨some d, ins, ty, pos, af, none⟩ W v W) (h : LW P n ops Q rest (nE E d v) W) (a : d < n := by decide) : LW P n ops Q (⟨some d, ins, ty, pos, af, none⟩ :: rest) E W := KD (.inl rfl) rfl a c h
theorem VE (h : nN P E ⟨some d, ins, ty, pos, af, none⟩ W fun v W' => LW P n ops Q rest (nE E d v) W') (a : d < n := by decide) : LW P n ops Q (⟨some d, ins, ty, pos, af, none⟩ :: rest) E W := WM (.inl rfl) rfl a h
theorem VO (h : nN P E ⟨none, ins, ty, pos, af, none⟩ W fun _ W' => LW P n ops Q rest E W') : LW P n ops Q (⟨none, ins, ty, pos, af, none⟩ :: rest) E W := YD (.inl rfl) rfl h
theorem VQ (c : ∃ p, A p ∧ ∀ W, mA P E ⟨some d, ins, ty, pos, af, none⟩ W p W) (h : ∀ p, A p → LW P n ops Q rest (nE E d p) W) (a : d < n := by decide) : LW P n ops Q (⟨some d, ins, ty, pos, af, none⟩ :: rest) E W := X6 (.inl rfl) rfl a c h
theorem Vg (c : (ops[j]?).bind (·.dst) = some t) (a : E t = .bool want) (i : mA P E ⟨some d, ins, ty, pos, af, some (j, want)⟩ W v W) (h : LW P n ops Q rest (nE E d v) W) (k : t < n := by decide) (g : d < n := by decide) : LW P n ops Q (⟨some d, ins, ty, pos, af, some (j, want)⟩ :: rest) E W := KD (.inr ⟨j, want, t, rfl, c, k, a⟩) rfl g i h
theorem SR (c : (ops[j]?).bind (·.dst) = some t) (a : E t = .bool want) (h : nN P E ⟨some d, ins, ty, pos, af, some (j, want)⟩ W fun v W' => LW P n ops Q rest (nE E d v) W') (i : t < n := by decide) (g : d < n := by decide) : LW P n ops Q (⟨some d, ins, ty, pos, af, some (j, want)⟩ :: rest) E W := WM (.inr ⟨j, want, t, rfl, c, i, a⟩) rfl g h
theorem Y0 (c : (ops[j]?).bind (·.dst) = some t) (a : E t = .bool want) (i : ∃ p, A p ∧ ∀ W, mA P E ⟨some d, ins, ty, pos, af, some (j, want)⟩ W p W) (h : ∀ p, A p → LW P n ops Q rest (nE E d p) W) (k : t < n := by decide) (g : d < n := by decide) : LW P n ops Q (⟨some d, ins, ty, pos, af, some (j, want)⟩ :: rest) E W := X6 (.inr ⟨j, want, t, rfl, c, k, a⟩) rfl g i h
theorem Vn (c : (ops[j]?).bind (·.dst) = some t) (a : E t = .bool (!want)) (h : LW P n ops Q rest (nE E d undef) W) (i : t < n := by decide) (g : d < n := by decide) : LW P n ops Q (⟨some d, ins, ty, pos, af, some (j, want)⟩ :: rest) E W := Yl rfl g rfl c i a h
theorem Vu (c : (ops[j]?).bind (·.dst) = some t) (a : E t = undef) (h : LW P n ops Q rest (nE E d undef) W) (i : t < n := by decide) (g : d < n := by decide) : LW P n ops Q (⟨some d, ins, ty, pos, af, some (j, want)⟩ :: rest) E W := Xv rfl g rfl c i a h
end
section
variable {P : Program} {n : Nat} {Q : ov} {E : Nat → Value} {W : World} {ops : Array Oper} {S : Array Bool → World → Prop} {fuel : Nat} {listed : Array Bool} {μ : lq} {B : List (Nat × Obj)}
variable {d j t : Nat} {want : Bool} {v : Value} {ins : Go.Op} {ty : TypeId} {pos : String} {af : Array Edge} {A : Value → Prop}
theorem X (i : Nat) (c : ops[i]? = some ⟨some d, ins, ty, pos, af, none⟩) (a : S (listed.setIfInBounds i true) W) (j : ∀ {W}, mA P E ⟨some d, ins, ty, pos, af, none⟩ W v W) (h : PX P n ops Q S fuel (listed.setIfInBounds i true) (nE E d v) W) (hk : Ew ops listed i = true := by kernel_rfl) (hm : ∀ l w, S (l.setIfInBounds i true) w → S l w := by exact fun _ _ h => h) (g : d < n := by decide) : PX P n ops Q S (fuel + 1) listed E W := nX i c hk (.inl rfl) rfl g hm a (fun _ _ _ _ => j) h
theorem XH (i : Nat) (c : ops[i]? = some ⟨some d, ins, ty, pos, af, none⟩) (a : rY μ B W) (j : ∀ W, rY μ B W → mA P E ⟨some d, ins, ty, pos, af, none⟩ W v W) (h : PX P n ops Q (fun _ W => rY μ B W) fuel (listed.setIfInBounds i true) (nE E d v) W) (hk : Ew ops listed i = true := by kernel_rfl) (g : d < n := by decide) : PX P n ops Q (fun _ W => rY μ B W) (fuel + 1) listed E W := nX i c hk (.inl rfl) rfl g (fun _ _ h => h) a (fun _ W _ h => j W h) h
theorem XQ (i : Nat) (c : ops[i]? = some ⟨some d, ins, ty, pos, af, none⟩) (a : S (listed.setIfInBounds i true) W) (j : ∃ p, A p ∧ ∀ W, mA P E ⟨some d, ins, ty, pos, af, none⟩ W p W) (h : ∀ p, A p → PX P n ops Q S fuel (listed.setIfInBounds i true) (nE E d p) W) (hk : Ew ops listed i = true := by kernel_rfl) (hm : ∀ l w, S (l.setIfInBounds i true) w → S l w := by exact fun _ _ h => h) (g : d < n := by decide) : PX P n ops Q S (fuel + 1) listed E W := G8 i c hk (.inl rfl) rfl g hm a j h
theorem XE (i : Nat) (a : ops[i]? = some ⟨some d, ins, ty, pos, af, none⟩) (h : nN P E ⟨some d, ins, ty, pos, af, none⟩ W fun v W' => S (listed.setIfInBounds i true) W' ∧ PX P n ops Q S fuel (listed.setIfInBounds i true) (nE E d v) W') (g : Region.ready .any ops listed = [i] := by kernel_rfl) (c : d < n := by decide) : PX P n ops Q S (fuel + 1) listed E W := QP i a g (.inl rfl) rfl c h
theorem XO (i : Nat) (a : ops[i]? = some ⟨none, ins, ty, pos, af, none⟩) (h : nN P E ⟨none, ins, ty, pos, af, none⟩ W fun _ W' => S (listed.setIfInBounds i true) W' ∧ PX P n ops Q S fuel (listed.setIfInBounds i true) E W') (c : Region.ready .any ops listed = [i] := by kernel_rfl) : PX P n ops Q S (fuel + 1) listed E W := Ys i a c (.inl rfl) rfl h
theorem Xg (i : Nat) (g : ops[i]? = some ⟨some d, ins, ty, pos, af, some (j, want)⟩) (k : (ops[j]?).bind (·.dst) = some t) (a : E t = .bool want) (c : S (listed.setIfInBounds i true) W) (q : ∀ {W}, mA P E ⟨some d, ins, ty, pos, af, some (j, want)⟩ W v W) (h : PX P n ops Q S fuel (listed.setIfInBounds i true) (nE E d v) W) (hk : Ew ops listed i = true := by kernel_rfl) (hm : ∀ l w, S (l.setIfInBounds i true) w → S l w := by exact fun _ _ h => h) (o : t < n := by decide) (m : d < n := by decide) : PX P n ops Q S (fuel + 1) listed E W := nX i g hk (.inr ⟨j, want, t, rfl, k, o, a⟩) rfl m hm c (fun _ _ _ _ => q) h
theorem vA (i : Nat) (g : ops[i]? = some ⟨some d, ins, ty, pos, af, some (j, want)⟩) (k : (ops[j]?).bind (·.dst) = some t) (a : E t = .bool want) (c : rY μ B W) (q : ∀ W, rY μ B W → mA P E ⟨some d, ins, ty, pos, af, some (j, want)⟩ W v W) (h : PX P n ops Q (fun _ W => rY μ B W) fuel (listed.setIfInBounds i true) (nE E d v) W) (hk : Ew ops listed i = true := by kernel_rfl) (o : t < n := by decide) (m : d < n := by decide) : PX P n ops Q (fun _ W => rY μ B W) (fuel + 1) listed E W := nX i g hk (.inr ⟨j, want, t, rfl, k, o, a⟩) rfl m (fun _ _ h => h) c (fun _ W _ h => q W h) h
theorem DK (i : Nat) (c : ops[i]? = some ⟨some d, ins, ty, pos, af, some (j, want)⟩) (g : (ops[j]?).bind (·.dst) = some t) (a : E t = .bool want) (h : nN P E ⟨some d, ins, ty, pos, af, some (j, want)⟩ W fun v W' => S (listed.setIfInBounds i true) W' ∧ PX P n ops Q S fuel (listed.setIfInBounds i true) (nE E d v) W') (m : Region.ready .any ops listed = [i] := by kernel_rfl) (o : t < n := by decide) (k : d < n := by decide) : PX P n ops Q S (fuel + 1) listed E W := QP i c m (.inr ⟨j, want, t, rfl, g, o, a⟩) rfl k h
theorem Xn (i : Nat) (g : ops[i]? = some ⟨some d, ins, ty, pos, af, some (j, want)⟩) (k : (ops[j]?).bind (·.dst) = some t) (a : E t = .bool (!want)) (c : S (listed.setIfInBounds i true) W) (h : PX P n ops Q S fuel (listed.setIfInBounds i true) (nE E d undef) W) (hk : Ew ops listed i = true := by kernel_rfl) (hm : ∀ l w, S (l.setIfInBounds i true) w → S l w := by exact fun _ _ h => h) (o : t < n := by decide) (m : d < n := by decide) : PX P n ops Q S (fuel + 1) listed E W := YI i g hk rfl k o a rfl m hm c h
theorem Xu (i : Nat) (g : ops[i]? = some ⟨some d, ins, ty, pos, af, some (j, want)⟩) (k : (ops[j]?).bind (·.dst) = some t) (a : E t = undef) (c : S (listed.setIfInBounds i true) W) (h : PX P n ops Q S fuel (listed.setIfInBounds i true) (nE E d undef) W) (hk : Ew ops listed i = true := by kernel_rfl) (hm : ∀ l w, S (l.setIfInBounds i true) w → S l w := by exact fun _ _ h => h) (o : t < n := by decide) (m : d < n := by decide) : PX P n ops Q S (fuel + 1) listed E W := WL i g hk rfl k o a rfl m hm c h
end
end Go.Proofs.YtbnbdigcbldfhaaGreat
