/- a part of a proof of OutcomeTells -/
import Derived.WalkKit
import Derived.WalkLawsBesides
import Derived.Maps.AppendAt
import Derived.OrdersHeld
import Derived.Laws.IdiomStrings
import Derived.Maps.RangeRun
import Derived.Lib.BytesEntry
import Derived.Lib.Bytealg
import Derived.Laws.Externs
import Derived.ChangeKeysEq
import Derived.Deep.AppendSrc
set_option linter.all false
namespace Go.Proofs.YtbnbdigcbldfhaaGreat
open Go.RowKit
def aA := @Option.bind_some
def aB := @Bool.false_eq_true
def aD := @Int.natCast_nonneg
def aG := @List.drop_length
def aH := @List.length_append
def aJ := @List.length_cons
def aK := @if_neg
def aM := @if_pos
def aO := @List.mem_singleton
def aP := @if_false
def aQ := @run_underlying
def aR := @List.mem_cons
def aS := @List.mem_append
def aT := @List.append_assoc
def aU := @Bool.and_eq_true
def aV := @congrArg
def bc := @if_true
def bA := @List.getElem?_eq_some_iff
def bB := @Nat.le_refl
def bD := @List.map_cons
def bF := @Bool.eq_iff_iff
def bH := @List.mem_map
def bI := @List.mem_append_left
def bK := @Result.andThen_ok
def bL := @List.cons.injEq
def bM := @Bool.not_true
def bN := @List.nodup_append
def bR := @List.eq_nil_of_length_eq_zero
def bT := @Nat.lt_succ_self
def bU := @List.nil_append
def bV := @decide_eq_true_eq
def bW := @List.length_nil
def bY := @beq_self_eq_true
def cd := @Sem.run_bind
def cj := @List.getElem?_eq_getElem
def cn := @Nat.mul_le_mul_right
def ct := @List.map_append
def cu := @List.append_nil
def cv := @Bool.not_eq_true
def cy := @List.length_take
def cA := @Nat.add_mul
def cD := @List.mem_append_right
def cE := @List.cons_append
def cH := @Calls.mono
def cJ := @Array.getElem?_eq_some_iff
def cK := @List.nodup_cons
def cL := @List.Perm.append_left
def cM := @List.size_toArray
def cO := @Nat.lt_of_lt_of_le
def cP := @Nat.min_eq_left
def cR := @List.getElem?_eq_none
def cT := @List.mem_filter
def cU := @Array.length_toList
def cV := @Bool.not_false
def cW := @Array.getD_eq_getD_getElem?
def cX := @List.take_of_length_le
def cZ := @Bool.eq_false_or_eq_true
def da := @Sem.run_pure
def db := @List.singleton_append
def de := @Array.getElem?_toList
def df := @Nat.zero_add
def dg := @List.eq_nil_or_concat
def di := @List.not_mem_nil
def dj := @Nat.le_trans
def dm := @Addr.add_lit
def dn := @List.length_drop
def dp := @List.Perm.refl
def dt := @List.flatten_cons
def du := @List.getElem?_map
def dv := @List.pairwise_append
def dw := @List.getElem?_drop
def dx := @List.getElem?_take
def dy := @List.length_map
def dz := @Option.map_some
def dA := @List.getElem?_take_of_lt
def dC := @List.ext_getElem?
def dE := @and_true
def dF := @List.length_eq_zero_iff
def dG := @Nat.eq_zero_or_pos
def dH := @List.mem_cons_of_mem
def dI := @List.all_eq_true
def dJ := @DataW.trod_struct
def dK := @Array.getElem?_modify
def dL := @List.perm_append_comm
def dM := @List.getElem_mem
def dN := @List.any_eq_true
def dP := @List.findIdx?_eq_some_iff_getElem
def dQ := @List.map_map
def dR := @bne_self_eq_false
def dS := @List.filter_sublist
def dT := @Oper.upon_value
def dU := @Oper.upon_enter
def dV := @Nat.zero_le
def dW := @Bool.or_eq_true
def dX := @Classical.byContradiction
def ec := @List.length_filter_le
def ed := @List.pairwise_cons
def ek := @Bool.true_and
def ep := @List.sum_cons
def et := @List.forall_mem_cons
def eu := @BitVec.ofInt_natCast
def ev := @Nat.pow_le_pow_right
def ew := @Int.toNat_natCast
def eE := @decide_true
def eF := @List.take_append
def eH := @Nat.testBit_succ
def eJ := @List.take_take
def eK := @List.findIdx?_cons
def eO := @List.mem_of_find?_eq_some
def eP := @Array.getElem?_eq_getElem
def eS := @List.getElem?_set
def eX := @Nat.add_assoc
def eZ := @ByteArray.toList_eq
def fc := @Oper.upon_skip
def fe := @List.perm_middle
def fh := @Nat.mul_le_mul
def fi := @List.filter_cons
def fj := @List.map_nil
def ft := @decide_false
def fu := @BitVec.toNat_ofNat
def fw := @or_false
def fA := @List.all_cons
def fB := @Array.getElem?_append
def fC := @List.getElem?_toArray
def fD := @List.take_append_drop
def fE := @List.length_mergeSort
def fF := @List.pairwise_map
def fG := @Nat.lt_trichotomy
def fH := @List.flatMap_cons
def fI := @cell_of_row
def fJ := @List.getElem?_append
def fK := @List.getElem?_append_right
def fL := @List.getD_eq_getElem?_getD
def fM := @Nat.eq_of_mul_eq_mul_right
def fS := @Nat.testBit_zero
def fT := @Nat.mod_eq_of_lt
def fU := @List.pairwise_iff_getElem
def fV := @List.findIdx?_eq_none_iff
def fW := @List.Sublist.append
def fX := @List.Perm.nodup_iff
def fY := @List.flatten_append
def fZ := @List.mergeSort_perm
def ga := @Array.getElem?_replicate
def gd := @wp_mono
def gf := @List.find?_cons
def gj := @beq_iff_eq
def gk := @List.map_mergeSort
def gx := @run_equalIn_struct
def gz := @List.getElem?_cons_zero
def gA := @List.pairwise_mergeSort
def gD := @List.drop_take
def gE := @Function.comp_def
def gF := @List.findIdx?_map
def gG := @Option.some.injEq
def gH := @List.Perm.append_right
def gI := @List.take_left
def gJ := @of_decide_eq_true
def gK := @getElem!_pos
def ib := @Nat.pow_succ
def ic := @Nat.testBit_eq_decide_div_mod_eq
def ie := @Nat.div_lt_iff_lt_mul
def ig := @List.length_replicate
def ij := @Array.getElem?_mapIdx
def iq := @List.concat_eq_append
def ir := @List.mem_flatten
def iu := @Option.getD_some
def iA := @List.mem_flatMap
def iG := @Bool.false_or
def iH := @List.findIdx?_append
def iI := @List.mem_of_getElem?
def iM := @List.mem_of_mem_take
def iN := @List.length_set
def iQ := @run_callFunc_extern
def iR := @List.filter_eq_self
def iS := @List.flatMap_append
def iT := @List.take_length_add_append
def iU := @Nat.lt_or_ge
def iV := @List.perm_append_comm_assoc
def jb := @run_loadCells_list
def jc := @grownCap_le_maxLen
def jd := @List.map_replicate
def jq := @UInt8.toNat_lt
def jr := @eq_iff_iff
def js := @Bool.and_assoc
def jt := @List.append_of_mem
def ju := @List.mem_range
def jv := @Nat.le_succ
def jw := @run_storeCells_at
def jC := @Bool.not_eq_true'
def jD := @UInt8.ofNat_toNat
def jE := @List.getLast?_nil
def jF := @List.length_range
def jG := @ByteArray.ext
def jT := @List.flatten_nil
def jU := @Nat.add_comm
def jV := @Nat.add_zero
def kh := @eq_comm
def ki := @List.find?_some
def kj := @Option.some.inj
def kk := @Nat.one_mul
def kl := @getD_set_ne
def ku := @mem_ready
def nA (E : Nat → Value) (d : Nat) (v : Value) : Nat → Value := fun t => if t = d then v else E t
def kG (E : Nat → Value) : Operand → Value
 | .tmp t => E t
 | .const v => v
 | .global g => .pointer (some ⟨g, 0, none⟩)
 | .func f => .func (.func f) #[] #[]
def Ag (n : Nat) (a : Act) (E : Nat → Value) : Prop := a.tmps.size = n ∧ a.defers = [] ∧ ∀ t, a.tmps.getD t undef = E t
section
variable {n : Nat} {a : Act} {E : Nat → Value}
theorem Ag.eval (h : Ag n a E) : a.eval = kG E := by
 funext x
 cases x with
 | tmp t => exact h.2.2 t
 | const v => rfl
 | global g => rfl
 | func f => rfl
theorem Ag.put (h : Ag n a E) {d : Nat} (i : d < n) (v : Value) : Ag n (a.put (some d) v) (nA E d v) := by
 refine ⟨by simp [Act.put, h.1], h.2.1, fun t => ?_⟩
 have g := h.2.2 t
 simp only [Act.put, nA]
 by_cases c : t = d
 ·subst c
  simp [h.1, i]
 ·have : ¬ d = t := fun e => c e.symm
  rw [aK c, ← g]
  simp [cW, this]
theorem Ag.xa (h : Ag n a E) (v : Value) : Ag n (a.put none v) E := h
theorem Ag.yield (h : Ag n a E) {ops : Array Oper} {j t : Nat} {b : Bool} (d : (ops[j]?).bind (·.dst) = some t) (i : t < n) (k : E t = .bool b) : yielded ops a.tmps j = some b := by
 have c := h.2.2 t
 have g : a.tmps[t]? = some (E t) := by
  rw [← c]
  simp [cW, h.1, i]
 simp [yielded, d, g, k]
end
abbrev oD := Exit → (Nat → Value) → World → Prop
def E0 : Nat → Value := fun _ => undef
def lift (n : Nat) (Q : oD) : Exit → Act → World → Prop
 | .panic c, a, w => a.defers = [] ∧ Q (.panic c) E0 w
 | .outgrown, _, _ => False
 | e, a, w => ∃ E, Ag n a E ∧ Q e E w
theorem Nd {n : Nat} {Q : oD} {c : List PanicEntry} {a : Act} {d : Option Nat} {v : Value} {w : World} (h : lift n Q (.panic c) (a.put d v) w) : lift n Q (.panic c) a w := by
 cases d <;> exact h
def CW (P : Program) (n : Nat) (c : Code) (Q : oD) (E : Nat → Value) (W : World) : Prop := ∀ a, Ag n a E → c.wp P (lift n Q) a W
def LW (P : Program) (n : Nat) (ops : Array Oper) (Q : oD) (l : List Oper) (E : Nat → Value) (W : World) : Prop := ∀ a, Ag n a E → wpList P ops (lift n Q) l a W
def qG (K : (Nat → Value) → World → Prop) (Q : oD) : oD
 | .normal, E, W => K E W
 | e, E, W => Q e E W
def xW (id : Nat) (Q : oD) : oD
 | .exit j, E, W => if j = id then Q .normal E W else Q (.exit j) E W
 | e, E, W => Q e E W
section
variable {P : Program} {n : Nat} {Q : oD} {E : Nat → Value} {W : World} {c x y : Code} {ops : Array Oper} {rest : List Oper} {o : Oper}
theorem Kc {Q' : oD} (h : CW P n c Q E W) (i : ∀ e E W, Q e E W → Q' e E W) : CW P n c Q' E W := fun a ha =>
 gd (h a ha) (fun e _ _ h => by
  cases e with
  | panic c => exact ⟨h.1, i _ _ _ h.2⟩
  | outgrown => exact h
  | _ => obtain ⟨E', d, g⟩ := h; exact ⟨E', d, i _ _ _ g⟩)
theorem kO (h : CW P n x (qG (fun E W => CW P n y Q E W) Q) E W) : CW P n (.seq x y) Q E W := fun a ha =>
 wp_seq (gd (h a ha) (fun e d i h => by
  cases e with
  | normal => obtain ⟨E', c, g⟩ := h; exact g d c
  | _ => exact h))
theorem lz (h : Q .normal E W) : CW P n .skip Q E W := fun _ ha => wp_skip ⟨E, ha, h⟩
theorem lj (h : Q .ret E W) : CW P n .ret Q E W := fun _ ha => wp_ret ⟨E, ha, h⟩
theorem ob {id : Nat} (h : Q (.exit id) E W) : CW P n (.exit id) Q E W := fun _ ha => wp_exit ⟨E, ha, h⟩
theorem mK {id : Nat} (h : CW P n c (xW id Q) E W) : CW P n (.block id c) Q E W := fun a ha =>
 wp_block (gd (h a ha) (fun e k m h => by
  cases e with
  | exit j =>
   obtain ⟨E', d, g⟩ := h
   simp only [Exit.inBlock]
   simp only [xW] at g
   split at g
   ·rename_i i; rw [aM i]; exact ⟨E', d, g⟩
   ·rename_i i; rw [aK i]; exact ⟨E', d, g⟩
  | _ => exact h))
theorem QJ {co : Operand} {b : Bool} (c : kG E co = .bool b) (g : b = true → CW P n x Q E W) (d : b = false → CW P n y Q E W) : CW P n (.cond co x y) Q E W := fun a ha => by
 refine wp_cond_split (t := b) (by rw [ha.eval]; exact c) (fun h => g h a ha) (fun h => d h a ha)
theorem ze {co : Operand} (a : kG E co = .bool true) (h : CW P n x Q E W) : CW P n (.cond co x y) Q E W := QJ a (fun _ => h) (fun h => by cases h)
theorem qo {co : Operand} (a : kG E co = .bool false) (h : CW P n y Q E W) : CW P n (.cond co x y) Q E W := QJ a (fun h => by cases h) (fun _ => h)
theorem kL {id : Nat} {l : List Oper} (h : LW P n l.toArray Q l E W) : CW P n (.region id l.toArray false) Q E W := fun a ha => wp_region_lit (h a ha)
theorem lh (h : Q .normal E W) : LW P n ops Q [] E W := fun _ ha => wpList_nil ⟨E, ha, h⟩
theorem LS {P : Program} {c : Code} {Q : Exit → Act → World → Prop} {a : Act} {w : World} (I : Nat → Act → World → Prop) (m : Nat) (v : I m a w) (round : ∀ m a w, I m a w → c.wp P (Exit.then (fun q s => ∃ z, z < m ∧ I z q s) Q) a w) : (Code.loop c).wp P Q a w := by
 intro b k cs
 have key : ∀ m a w, I m a w → ∃ e q s, Q e q s ∧ Arrives P (lone (b.at a (.code c :: .inLoop c :: k)) cs w) b k cs e q s := by
  intro m
  induction m using Nat.strongRecOn with
  | _ m ih =>
   intro a w D
   obtain ⟨e, g, h, j, d⟩ := round m a w D b (.inLoop c :: k) cs
   cases e with
   | normal =>
    obtain ⟨z, A, n⟩ := j
    obtain ⟨u, t, y, o, i⟩ := ih z A g h n
    exact ⟨u, t, y, o, .of_steps (Steps.trans d (.one step_inLoop)) i⟩
   | exit id => exact ⟨_, g, h, j, .pass (x := .inLoop c) rfl (fun _ _ => .inl (by simp)) d⟩
   | goto l => exact ⟨_, g, h, j, .pass (x := .inLoop c) rfl (fun _ _ => .inl (by simp)) d⟩
   | ret => exact ⟨_, g, h, j, .pass (x := .inLoop c) rfl (fun _ _ => .inl (by simp)) d⟩
   | panic G => exact ⟨_, g, h, j, .pass (x := .inLoop c) rfl (fun _ _ => .inl (by simp)) d⟩
   | outgrown => exact ⟨_, g, h, j, .pass (x := .inLoop c) rfl (fun _ _ => .inl (by simp)) d⟩
 obtain ⟨e, q, s, j, d⟩ := key m a w v
 exact ⟨e, q, s, j, .of_steps (.one step_loop) d⟩
theorem od (I : Nat → (Nat → Value) → World → Prop) (m : Nat) (d : I m E W) (round : ∀ m E W, I m E W → CW P n c (qG (fun E' W' => ∃ g, g < m ∧ I g E' W') Q) E W) : CW P n (.loop c) Q E W := fun a ha =>
 LS (fun m a w => ∃ E, Ag n a E ∧ I m E w) m ⟨E, ha, d⟩ (fun m a w ⟨E, ha, o⟩ =>
  gd (round m E w o a ha) (fun e q s h => by
   cases e with
   | normal => obtain ⟨E', j, g, k, i⟩ := h; exact ⟨g, k, E', j, i⟩
   | _ => exact h))
def mA (n : Nat) (ops : Array Oper) (E : Nat → Value) (o : Oper) : Prop :=
 o.guard = none ∨ ∃ j want t, o.guard = some (j, want) ∧ (ops[j]?).bind (·.dst) = some t ∧ t < n ∧ E t = .bool want
theorem mA.of {a : Act} (h : mA n ops E o) (ha : Ag n a E) : Region.wanted o (yielded ops a.tmps) = true := by
 rcases h with h | ⟨j, want, t, d, g, i, c⟩
 ·simp [Region.wanted, h]
 ·simp [Region.wanted, d, ha.yield g i c]
theorem Se {d : Nat} {v : Value} {W' : World} (hw : mA n ops E o) (c : o.dst = some d) (g : d < n) (i : (execOp (kG E) o).run P W = .ok (.value v) W') (h : LW P n ops Q rest (nA E d v) W') : LW P n ops Q (o :: rest) E W := fun a ha => by
 unfold wpList
 rw [aM (hw.of ha)]
 refine .inl ?_
 unfold Oper.wp
 rw [ha.eval, i, dT, c]
 exact h _ (ha.put g v)
theorem Tk {W' : World} (hw : mA n ops E o) (c : o.dst = none) (d : (execOp (kG E) o).run P W = .ok .skip W') (h : LW P n ops Q rest E W') : LW P n ops Q (o :: rest) E W := fun a ha => by
 unfold wpList
 rw [aM (hw.of ha)]
 refine .inl ?_
 unfold Oper.wp
 rw [ha.eval, d, fc, c]
 exact h _ (ha.xa _)
theorem TO {f : FuncId} {args : Array Value} {d : Nat} (hw : mA n ops E o) (g : o.dst = some d) (j : d < n) (k : (execOp (kG E) o).run P W = .ok (.enter f args) W) (h : Calls P f args W fun e c => ∃ v, e = .returned v ∧ LW P n ops Q rest (nA E d v) c) : LW P n ops Q (o :: rest) E W := fun a ha => by
 unfold wpList
 rw [aM (hw.of ha)]
 refine .inl ?_
 unfold Oper.wp
 rw [ha.eval, k, dU]
 refine h.mono ?_
 rintro e c ⟨v, rfl, i⟩
 simp only [g]
 exact i _ (ha.put j v)
theorem XU {d j t : Nat} {want : Bool} (g : o.dst = some d) (m : d < n) (i : o.guard = some (j, want)) (k : (ops[j]?).bind (·.dst) = some t) (q : t < n) (c : E t = .bool (!want)) (h : LW P n ops Q rest (nA E d undef) W) : LW P n ops Q (o :: rest) E W := fun a ha => by
 unfold wpList
 have s := ha.yield k q c
 rw [aK (by simp [Region.wanted, i, s])]
 rw [g]
 exact h _ (ha.put m _)
end
variable {dd : Bool}
abbrev lm := Nat → Option Obj
def hp (W : World) : lm := fun b => W.heap[b]?
def uX (dd : Bool) (a b : Nat) : Prop := dd = true → a ≤ b
theorem uX.of {dd : Bool} {a b : Nat} (h : a ≤ b) : uX dd a b := fun _ => h
theorem uX.trans {dd : Bool} {a b c : Nat} (h : uX dd a b) (k : uX dd b c) : uX dd a c := fun e => dj (h e) (k e)
structure Ex (dd : Bool) (w W : World) : Prop where
 os : W.os = w.os
 tape : W.tape = w.tape
 output : W.output = w.output
 drawn : uX dd w.drawn W.drawn
 size : w.heap.size ≤ W.heap.size
 na : ∀ b, b < w.heap.size → W.heap[b]? = w.heap[b]?
theorem Ex.refl (w : World) : Ex dd w w := ⟨rfl, rfl, rfl, uX.of (bB _), bB _, fun _ _ => rfl⟩
theorem Ex.trans {a b c : World} (h : Ex dd a b) (k : Ex dd b c) : Ex dd a c :=
 ⟨k.os.trans h.os, k.tape.trans h.tape, k.output.trans h.output, uX.trans h.drawn k.drawn, dj h.size k.size, fun i d => (k.na i (cO d h.size)).trans (h.na i d)⟩
theorem Ex.drew (w : World) : Ex dd w w.drew := ⟨rfl, rfl, rfl, uX.of (jv _), bB _, fun _ _ => rfl⟩
theorem Ex.alloc (w : World) (o : Obj) : Ex dd w (w.alloc o) := ⟨rfl, rfl, rfl, uX.of (bB _), by show w.heap.size ≤ (w.heap.push o).size; simp, fun k hk => Below.heap_alloc w o k hk⟩
theorem Ex.mn {w W : World} (h : Ex true w W) : Ex dd w W := ⟨h.os, h.tape, h.output, uX.of (h.drawn rfl), h.size, h.na⟩
def kY (μ μ' : lm) : Prop := ∀ b o, μ b = some o → μ' b = some o
theorem kY.refl (μ : lm) : kY μ μ := fun _ _ h => h
theorem kY.trans {a b c : lm} (h : kY a b) (k : kY b c) : kY a c := fun x o d => k x o (h x o d)
structure ST (dd : Bool) (F : Nat → Prop) (w W : World) (μ : lm) (L : List (Nat × Obj)) : Prop where
 os : W.os = w.os
 tape : W.tape = w.tape
 output : W.output = w.output
 drawn : uX dd w.drawn W.drawn
 size : w.heap.size ≤ W.heap.size
 na : ∀ b, b < w.heap.size → ¬ F b → W.heap[b]? = w.heap[b]?
 mem : ∀ b o, μ b = some o → W.heap[b]? = some o
 box : ∀ b o, (b, o) ∈ L → W.heap[b]? = some o ∧ μ b = none ∧ (w.heap.size ≤ b ∨ F b)
 nd : (L.map (·.1)).Nodup
def ll : Nat → Prop := fun _ => False
theorem ST.start (w : World) : ST dd ll w w (hp w) [] :=
 ⟨rfl, rfl, rfl, uX.of (bB _), bB _, fun _ _ _ => rfl, fun _ _ h => h, fun _ _ h => (by cases h), by simp⟩
section
variable {F : Nat → Prop} {w W W' : World} {μ μ' : lm} {L L' : List (Nat × Obj)}
theorem ST.ex (h : ST dd ll w W μ L) : Ex dd w W := ⟨h.os, h.tape, h.output, h.drawn, h.size, fun b a => h.na b a (fun x => x)⟩
theorem T4 (W : World) (o : Obj) : (W.alloc o).heap[W.heap.size]? = some o := heap_alloc_new W o
theorem oM {W : World} {b : Nat} {o : Obj} (h : W.heap[b]? = some o) : b < W.heap.size := (cJ.1 h).1
theorem ST.drew (h : ST dd F w W μ L) : ST dd F w W.drew μ L :=
 ⟨h.os, h.tape, h.output, uX.trans h.drawn (uX.of (jv _)), h.size, h.na, h.mem, h.box, h.nd⟩
theorem ST.GN (h : ST dd F w W μ L) {b : Nat} {o : Obj} (a : (b, o) ∈ L) : b < W.heap.size := oM (h.box b o a).1
theorem ST.alloc (h : ST dd F w W μ L) (o : Obj) : ST dd F w (W.alloc o) μ ((W.heap.size, o) :: L) := by
 refine ⟨h.os, h.tape, h.output, h.drawn, dj h.size (Ex.alloc (dd := true) W o).size, fun b a i => ?_, fun b c a => ?_, fun b c a => ?_, ?_⟩
 ·rw [(Ex.alloc (dd := true) W o).na b (cO a h.size)]; exact h.na b a i
 ·have := h.mem b c a
  rw [(Ex.alloc (dd := true) W o).na b (oM this)]; exact this
 ·rcases aR.1 a with e | a
  ·cases e
   refine ⟨T4 W o, ?_, .inl h.size⟩
   cases hm : μ W.heap.size with
   | none => rfl
   | some x => have := oM (h.mem _ _ hm); omega
  ·obtain ⟨h1, d, g⟩ := h.box b c a
   exact ⟨by rw [(Ex.alloc (dd := true) W o).na b (oM h1)]; exact h1, d, g⟩
 ·simp only [bD, cK]
  refine ⟨fun hm => ?_, h.nd⟩
  obtain ⟨⟨b, c⟩, a, e⟩ := bH.1 hm
  have := h.GN a
  simp at e
  omega
theorem ST.put {A B : List (Nat × Obj)} {b : Nat} {o n : Obj} (h : ST dd F w W μ (A ++ (b, o) :: B)) (v : W'.os = W.os ∧ W'.tape = W.tape ∧ W'.output = W.output ∧ W.drawn ≤ W'.drawn ∧ W'.heap.size = W.heap.size) (d : ∀ k, k ≠ b → W'.heap[k]? = W.heap[k]?) (y : W'.heap[b]? = some n) : ST dd F w W' μ (A ++ (b, n) :: B) := by
 obtain ⟨h1, q, s, t, u⟩ := v
 have c := h.box b o (by simp)
 have a := h.nd
 simp only [ct, bD] at a
 have g : ∀ x o, (x, o) ∈ A → x ≠ b := fun x o j e => by
  subst e
  have := (bN.1 a).2.2 x (bH.2 ⟨_, j, rfl⟩) x (by simp)
  exact this rfl
 have i : ∀ x o, (x, o) ∈ B → x ≠ b := fun x o j e => by
  subst e
  have := (cK.1 (bN.1 a).2.1).1
  exact this (bH.2 ⟨_, j, rfl⟩)
 refine ⟨h1.trans h.os, q.trans h.tape, s.trans h.output, uX.trans h.drawn (uX.of t), by rw [u]; exact h.size, fun k hk m => ?_, fun k x hk => ?_, fun k x hk => ?_, by simpa using a⟩
 ·rw [d k (fun e => by subst e; rcases c.2.2 with h | h; omega; exact m h)]
  exact h.na k hk m
 ·rw [d k (fun e => by subst e; rw [c.2.1] at hk; cases hk)]
  exact h.mem k x hk
 ·rcases aS.1 hk with hk | hk
  ·rw [d k (g k x hk)]; exact h.box k x (by simp [hk])
  ·rcases aR.1 hk with e | hk
   ·cases e; exact ⟨y, c.2⟩
   ·rw [d k (i k x hk)]; exact h.box k x (by simp [hk])
def Lo (F : Nat → Prop) (w : World) (μ μ' : lm) : Prop := ∀ b, b < w.heap.size → ¬ F b → μ' b = μ b
theorem Lo.refl {F : Nat → Prop} {w : World} {μ : lm} : Lo F w μ μ := fun _ _ _ => rfl
theorem Lo.trans {F : Nat → Prop} {w : World} {a b c : lm} (h : Lo F w a b) (k : Lo F w b c) : Lo F w a c := fun x g d => (k x g d).trans (h x g d)
def grow (μ : lm) (W W' : World) : lm := fun b => if b < W.heap.size then μ b else W'.heap[b]?
theorem ST.FK (h : ST dd F w W μ L) {b : Nat} {o : Obj} (a : μ b = some o) : b < W.heap.size := oM (h.mem b o a)
theorem ST.call (h : ST dd F w W μ L) (c : Ex dd W W') : ST dd F w W' (grow μ W W') L := by
 refine ⟨c.os.trans h.os, c.tape.trans h.tape, c.output.trans h.output, uX.trans h.drawn c.drawn, dj h.size c.size, fun b a j => ?_, fun b o a => ?_, fun b o a => ?_, h.nd⟩
 ·rw [c.na b (cO a h.size)]; exact h.na b a j
 ·unfold grow at a
  split at a
  ·rename_i d; rw [c.na b d]; exact h.mem b o a
  ·exact a
 ·obtain ⟨h1, g, i⟩ := h.box b o a
  exact ⟨by rw [c.na b (oM h1)]; exact h1, by unfold grow; rw [aM (oM h1)]; exact g, i⟩
theorem ST.SS (h : ST dd F w W μ L) (W' : World) : kY μ (grow μ W W') := fun b o a => by
 unfold grow; rw [aM (h.FK a)]; exact a
theorem ST.mn (h : ST dd F w W μ' L) (c : kY μ μ') : ST dd F w W μ L :=
 ⟨h.os, h.tape, h.output, h.drawn, h.size, h.na, fun b o a => h.mem b o (c b o a), fun b o a => by
  obtain ⟨h1, d, g⟩ := h.box b o a
  refine ⟨h1, ?_, g⟩
  cases hm : μ b with
  | none => rfl
  | some x => (have := c b x hm; rw [d] at this; cases this), h.nd⟩
theorem ST.HP (h : ST dd F w W μ L) (a : Ex dd W W') : ST dd F w W' μ L := (h.call a).mn (h.SS W')
theorem ST.kJ (h : ST dd F w W μ L) : kY μ (hp W) := h.mem
def PA (μ : lm) (b : Nat) (o : Obj) : lm := fun k => if k = b then some o else μ k
theorem ST.Kz {A B : List (Nat × Obj)} {b : Nat} {o : Obj} (h : ST dd F w W μ (A ++ (b, o) :: B)) : ST dd F w W (PA μ b o) (A ++ B) := by
 have d := h.box b o (by simp)
 have a := h.nd
 simp only [ct, bD] at a
 have i : ∀ x y, (x, y) ∈ A ++ B → x ≠ b := fun x y c e => by
  subst e
  rcases aS.1 c with c | c
  ·exact (bN.1 a).2.2 x (bH.2 ⟨_, c, rfl⟩) x (by simp) rfl
  ·exact (cK.1 (bN.1 a).2.1).1 (bH.2 ⟨_, c, rfl⟩)
 refine ⟨h.os, h.tape, h.output, h.drawn, h.size, h.na, fun k x hk => ?_, fun k x hk => ?_, ?_⟩
 ·unfold PA at hk
  split at hk
  ·rename_i e; cases hk; rw [e]; exact d.1
  ·exact h.mem k x hk
 ·have g : (k, x) ∈ A ++ (b, o) :: B := by
   rcases aS.1 hk with h | h <;> simp [h]
  obtain ⟨h1, j, m⟩ := h.box k x g
  exact ⟨h1, by unfold PA; rw [aK (i k x hk)]; exact j, m⟩
 ·have : (A ++ B).Sublist (A ++ (b, o) :: B) := fW (List.Sublist.refl A) (List.sublist_cons_self _ _)
  exact List.Nodup.sublist (this.map _) h.nd
theorem ST.Ka {A B : List (Nat × Obj)} {b : Nat} {o : Obj} (h : ST dd F w W μ (A ++ (b, o) :: B)) : kY μ (PA μ b o) := fun k x hk => by
 unfold PA
 split
 ·rename_i e; subst e; rw [(h.box k o (by simp)).2.1] at hk; cases hk
 ·exact hk
theorem ST.Sv {A B : List (Nat × Obj)} {b : Nat} {o : Obj} (h : ST dd F w W μ (A ++ (b, o) :: B)) : Lo F w μ (PA μ b o) := fun k hk c => by
 refine aK (fun e => ?_)
 subst e
 rcases (h.box k o (by simp)).2.2 with a | a
 ·omega
 ·exact c a
theorem ST.drop {A B : List (Nat × Obj)} {p : Nat × Obj} (h : ST dd F w W μ (A ++ p :: B)) : ST dd F w W μ (A ++ B) :=
 (h.Kz (b := p.1) (o := p.2)).mn h.Ka
end
abbrev rA (α : Type) := lm → List Value → α → Prop
def Sl {α : Type} (R : rA α) (k : Nat) (μ : lm) (v : Value) (l : List α) : Prop :=
 ∃ A c, v = .slice A l.length c ∧ l.length ≤ c ∧ c ≤ maxLen ∧ (0 < l.length → ∃ b off cs T fr, A = some ⟨b, off, none⟩ ∧ μ b = some (.cells cs T fr) ∧
  ∀ i x, l[i]? = some x → ∃ ys, ys.length = k ∧ R μ ys x ∧ ∀ j y, ys[j]? = some y → cs[off + i * k + j]? = some y)
def At (μ : lm) (v : Value) (ys : List Value) : Prop :=
 ∃ b off cs T fr, v = .pointer (some ⟨b, off, none⟩) ∧ μ b = some (.cells cs T fr) ∧ ∀ j y, ys[j]? = some y → cs[off + j]? = some y
def Fr (B : Nat) (v : Value) : Prop := ∀ b, v.ownBlock = some b → B ≤ b
def Jk {α : Type} (R : rA α) : Prop := ∀ μ μ' ys x, kY μ μ' → R μ ys x → R μ' ys x
def Pl {α : Type} (enc : α → List Value) : rA α := fun _ ys x => ys = enc x
theorem Pl.mono {α : Type} (enc : α → List Value) : Jk (Pl enc) := fun _ _ _ _ _ h => h
theorem Sl.mono {α : Type} {R : rA α} (u : Jk R) {k : Nat} {μ μ' : lm} {v : Value} {l : List α} (h : Sl R k μ v l) (d : kY μ μ') : Sl R k μ' v l := by
 obtain ⟨A, c, h1, g, j, m⟩ := h
 refine ⟨A, c, h1, g, j, fun w => ?_⟩
 obtain ⟨b, off, cs, T, fr, n, o, q⟩ := m w
 exact ⟨b, off, cs, T, fr, n, d _ _ o, fun i x y => let ⟨ys, s, t, a⟩ := q i x y; ⟨ys, s, u _ _ _ _ d t, a⟩⟩
theorem At.mono {μ μ' : lm} {v : Value} {ys : List Value} (h : At μ v ys) (d : kY μ μ') : At μ' v ys := by
 obtain ⟨b, off, cs, T, fr, h1, a, c⟩ := h
 exact ⟨b, off, cs, T, fr, h1, d _ _ a, c⟩
theorem Sl.len {α : Type} {R : rA α} {k : Nat} {μ : lm} {v : Value} {l : List α} (h : Sl R k μ v l) : l.length ≤ 9223372036854775807 := by
 obtain ⟨A, c, h1, d, a, g⟩ := h
 unfold maxLen at a
 omega
theorem Sl.nil {α : Type} (R : rA α) (k : Nat) (μ : lm) : Sl R k μ (.slice none 0 0) [] := ⟨none, 0, rfl, bB _, by decide, fun h => absurd h (by simp)⟩
theorem Fr.mono {B B' : Nat} {v : Value} (h : Fr B v) (a : B' ≤ B) : Fr B' v := fun b c => dj a (h b c)
theorem Fr.nil (B : Nat) : Fr B (.slice none 0 0) := fun b a => by simp [Value.ownBlock] at a
end Go.Proofs.YtbnbdigcbldfhaaGreat
namespace Go.Proofs.YtbnbdigcbldfhaaGreat
open Go.RowKit
variable {dd : Bool}
section
variable {P : Program} {n : Nat} {Q : oD} {E : Nat → Value} {W : World} {ops : Array Oper} {rest : List Oper}
 {d : Option Nat} {ty : TypeId} {pos : String} {af : Array Edge} {g : Option (Nat × Bool)}
 {F : Nat → Prop} {w : World} {μ : lm} {L : List (Nat × Obj)}
def mw (P : Program) (E : Nat → Value) (o : Oper) (W : World) (v : Value) (W' : World) : Prop := (execOp (kG E) o).run P W = .ok (.value v) W'
theorem Ko {o : Oper} {dd : Nat} {v : Value} (hw : mA n ops E o) (a : o.dst = some dd) (c : dd < n) (d : mw P E o W v W) (h : LW P n ops Q rest (nA E dd v) W) : LW P n ops Q (o :: rest) E W := Se hw a c d h
theorem kH {x : Operand} {v : Value} (a : kG E x = v) : mw P E ⟨d, .move x, ty, pos, af, g⟩ W v W := by rw [← a]; rfl
theorem mN {x : Operand} {v : Value} (a : kG E x = v) : mw P E ⟨d, .assign x, ty, pos, af, g⟩ W v W := by rw [← a]; rfl
theorem kR {c x y : Operand} {v : Value} (a : kG E c = .bool true) (h : kG E x = v) : mw P E ⟨d, .pick c x y, ty, pos, af, g⟩ W v W := by
 show (do pure (.value (if ← asBool (kG E c) then kG E x else kG E y)) : Sem Next).run P W = _
 rw [a, ← h]; simp [asBool]
theorem kQ {c x y : Operand} {v : Value} (a : kG E c = .bool false) (h : kG E y = v) : mw P E ⟨d, .pick c x y, ty, pos, af, g⟩ W v W := by
 show (do pure (.value (if ← asBool (kG E c) then kG E x else kG E y)) : Sem Next).run P W = _
 rw [a, ← h]; simp [asBool]
theorem B6 {x : Operand} {i : Nat} {vs : Array Value} {v : Value} (c : kG E x = .tuple vs) (a : vs[i]? = some v) : mw P E ⟨d, .extract x i, ty, pos, af, g⟩ W v W := by
 show (do pure (.value (← Instr.extract (kG E x) i)) : Sem Next).run P W = _
 rw [c]; simp [Instr.extract, a]
theorem mQ {u : TypeId} {x : Operand} {b : Bool} (a : kG E x = .bool b) : mw P E ⟨d, .unOp .not u x, ty, pos, af, g⟩ W (.bool !b) W := by
 show (do pure (.value (← Op.unary .not (kG E x))) : Sem Next).run P W = _
 rw [a]; simp [Op.unary]
theorem Qh {fn : Fn} {first caps : Array Operand} {v : Value} (a : .func fn (first.map (kG E)) (caps.map (kG E)) = v) : mw P E ⟨d, .makeFunc fn first caps, ty, pos, af, g⟩ W v W := by
 show (do pure (.value (← Instr.makeFunc fn (first.map (kG E)) (caps.map (kG E)))) : Sem Next).run P W = _
 rw [← a]; simp [Instr.makeFunc]
def Mq (k : IntKind) (op : BinOp) (a b : Int) : Option Value :=
 match op with
 | .eql => some (.bool (a == b))
 | .neq => some (.bool (a != b))
 | .lss => some (.bool (decide (a < b)))
 | .leq => some (.bool (decide (a ≤ b)))
 | .gtr => some (.bool (decide (a > b)))
 | .geq => some (.bool (decide (a ≥ b)))
 | .add => some (.int k (k.wrap (a + b)))
 | .sub => some (.int k (k.wrap (a - b)))
 | .mul => some (.int k (k.wrap (a * b)))
 | _ => none
theorem lL {op : BinOp} {tx tv : TypeId} {x y : Operand} {k : IntKind} {a b : Int} {v : Value} (h : kG E x = .int k a) (i : kG E y = .int k b) (c : Mq k op a b = some v) :
  mw P E ⟨d, .binOp op tx x y tv, ty, pos, af, g⟩ W v W := by
 show (do let r ← (do eqGuard op tx x y (kG E x) (kG E y); binOp op tx (kG E x) (kG E y)); pure (.value r) : Sem Next).run P W = _
 rw [h, i]
 cases op <;> simp [Mq] at c <;> subst c <;> simp [eqGuard, binOp, Op.intCmp, Op.intArith]
def UG (op : BinOp) (a b : ByteArray) : Option Value :=
 match op with
 | .eql => some (.bool (a.toList == b.toList))
 | .neq => some (.bool !(a.toList == b.toList))
 | .lss => some (.bool (Op.bytesLess a.toList b.toList))
 | .leq => some (.bool (Op.bytesLess a.toList b.toList || a.toList == b.toList))
 | .gtr => some (.bool !(Op.bytesLess a.toList b.toList || a.toList == b.toList))
 | .geq => some (.bool !(Op.bytesLess a.toList b.toList))
 | _ => none
def By (a b : ByteArray) : Option ByteArray := if ((a.size + b.size : Nat) : Int) > IntKind.i64.max then none else some (a ++ b)
theorem rU {op : BinOp} {tx tv : TypeId} {x y : Operand} {a b : ByteArray} {v : Value} (h : kG E x = .string a) (i : kG E y = .string b) (c : UG op a b = some v) :
  mw P E ⟨d, .binOp op tx x y tv, ty, pos, af, g⟩ W v W := by
 show (do let r ← (do eqGuard op tx x y (kG E x) (kG E y); binOp op tx (kG E x) (kG E y)); pure (.value r) : Sem Next).run P W = _
 rw [h, i]
 cases op <;> simp [UG] at c <;> subst c <;> simp [eqGuard, binOp, Op.stringOp]
theorem CF {tx tv : TypeId} {x y : Operand} {a b r : ByteArray} (h : kG E x = .string a) (i : kG E y = .string b) (c : By a b = some r) :
  mw P E ⟨d, .binOp .add tx x y tv, ty, pos, af, g⟩ W (.string r) W := by
 show (do let r ← (do eqGuard .add tx x y (kG E x) (kG E y); binOp .add tx (kG E x) (kG E y)); pure (.value r) : Sem Next).run P W = _
 rw [h, i]
 simp only [By] at c
 split at c
 ·cases c
 ·rename_i hle; cases c; simp [eqGuard, binOp, Op.stringOp]; simpa using hle
theorem tT {tx tv : TypeId} {x y : Operand} {a b : Array Value} {r : Bool} (i : kG E x = .agg a) (j : kG E y = .agg b) (c : ∀ W, (eqGuard .eql tx x y (.agg a) (.agg b)).run P W = .ok () W) (h : ∀ W, (binOp .eql tx (.agg a) (.agg b)).run P W = .ok (.bool r) W) : mw P E ⟨d, .binOp .eql tx x y tv, ty, pos, af, g⟩ W (.bool r) W := by
 show (do let r ← (do eqGuard .eql tx x y (kG E x) (kG E y); binOp .eql tx (kG E x) (kG E y)); pure (.value r) : Sem Next).run P W = _
 rw [i, j]; simp [c W, h W]
theorem EB {tx tv : TypeId} {x y : Operand} {a b : Array Value} {r : Bool} (i : kG E x = .agg a) (j : kG E y = .agg b) (c : ∀ W, (eqGuard .neq tx x y (.agg a) (.agg b)).run P W = .ok () W) (h : ∀ W, (binOp .neq tx (.agg a) (.agg b)).run P W = .ok (.bool r) W) : mw P E ⟨d, .binOp .neq tx x y tv, ty, pos, af, g⟩ W (.bool r) W := by
 show (do let r ← (do eqGuard .neq tx x y (kG E x) (kG E y); binOp .neq tx (kG E x) (kG E y)); pure (.value r) : Sem Next).run P W = _
 rw [i, j]; simp [c W, h W]
theorem Ed {t e : TypeId} (dd : Nat) (c : P.underlying t = some (.pointer e)) (a : Option Addr) (W : World) : (Op.equalIn (dd + 1) t (.pointer a) (.pointer none)).run P W = .ok a.isNone W := by
 cases a <;> simp [Op.equalIn, aQ c]
theorem ua {tx tv e : TypeId} {x y : Operand} {a : Option Addr} (h : P.underlying tx = some (.pointer e)) (i : kG E x = .pointer a) (j : kG E y = .pointer none) :
  mw P E ⟨d, .binOp .eql tx x y tv, ty, pos, af, g⟩ W (.bool a.isNone) W := by
 show (do let r ← (do eqGuard .eql tx x y (kG E x) (kG E y); binOp .eql tx (kG E x) (kG E y)); pure (.value r) : Sem Next).run P W = _
 rw [i, j]
 have c := Ed 9999 h a W
 simp [eqGuard, binOp, Op.equal, show Op.maxDepth = 9999 + 1 from rfl, c]
theorem CS {tx tv e : TypeId} {x y : Operand} {a : Option Addr} (h : P.underlying tx = some (.pointer e)) (i : kG E x = .pointer a) (j : kG E y = .pointer none) :
  mw P E ⟨d, .binOp .neq tx x y tv, ty, pos, af, g⟩ W (.bool !a.isNone) W := by
 show (do let r ← (do eqGuard .neq tx x y (kG E x) (kG E y); binOp .neq tx (kG E x) (kG E y)); pure (.value r) : Sem Next).run P W = _
 rw [i, j]
 have c := Ed 9999 h a W
 simp [eqGuard, binOp, Op.equal, show Op.maxDepth = 9999 + 1 from rfl, c]
theorem om {x : Operand} {t : TypeId} {s : ByteArray} (a : P.underlying t = some .string) (c : kG E x = .string s) : mw P E ⟨d, .call ⟨.builtin .len, #[x], #[t]⟩, ty, pos, af, g⟩ W (.int .i64 s.size) W := by
 show (do let d ← resolve (kG E) ⟨.builtin .len, #[x], #[t]⟩ ty; invoke d.target d.args : Sem Next).run P W = _
 simp [resolve, invoke, builtin, Builtin.len_, aQ a, c, goInt]
theorem BG {x : Operand} {t e : TypeId} {A : Option Addr} {l c : Nat} (a : P.underlying t = some (.slice e)) (h : kG E x = .slice A l c) : mw P E ⟨d, .call ⟨.builtin .len, #[x], #[t]⟩, ty, pos, af, g⟩ W (.int .i64 l) W := by
 show (do let d ← resolve (kG E) ⟨.builtin .len, #[x], #[t]⟩ ty; invoke d.target d.args : Sem Next).run P W = _
 simp [resolve, invoke, builtin, Builtin.len_, aQ a, h, goInt]
theorem ly {α : Type} {R : rA α} {k : Nat} {m : lm} {x : Operand} {t e : TypeId} {v : Value} {l : List α} (h : P.underlying t = some (.slice e)) (i : kG E x = v) (a : Sl R k m v l) : mw P E ⟨d, .call ⟨.builtin .len, #[x], #[t]⟩, ty, pos, af, g⟩ W (.int .i64 l.length) W := by
 obtain ⟨A, c, rfl, _⟩ := a
 exact BG h i
theorem CU {t : TypeId} {x a : Operand} {o : IntKind} {s : ByteArray} {i : Int} {c : UInt8} (m : P.underlying t = some .string) (n : kG E x = .string s) (j : kG E a = .int o i) (h : 0 ≤ i) (k : s[i.toNat]? = some c) :
  mw P E ⟨d, .index t x a, ty, pos, af, g⟩ W (.int .u8 c.toNat) W := by
 show (do pure (.value (← Instr.index t (kG E x) (kG E a))) : Sem Next).run P W = _
 rw [n, j]
 simp [Instr.index, asIntOf, aQ m, h, k]
def mg (P : Program) (t : TypeId) (f off : Nat) : Prop := ∀ b o w, (Instr.fieldAt t (.pointer (some ⟨b, o, none⟩)) f).run P w = .ok (.pointer (some ⟨b, o + off, none⟩)) w
theorem kD {t : TypeId} {x : Operand} {f off b o : Nat} (a : mg P t f off) (c : kG E x = .pointer (some ⟨b, o, none⟩)) : mw P E ⟨d, .fieldAddr t x f, ty, pos, af, g⟩ W (.pointer (some ⟨b, o + off, none⟩)) W := by
 show (do pure (.value (← Instr.fieldAt t (kG E x) f)) : Sem Next).run P W = _
 rw [c]; simp [a b o W]
theorem zb {t : TypeId} {x : Operand} {f off : Nat} {v : Value} {ys : List Value} (a : List Value) (k : mg P t f off) (q : kG E x = v) (n : At μ v ys) (s : (ys.drop off).take a.length = a) :
  ∃ h, At μ h a ∧ ∀ W, mw P E ⟨d, .fieldAddr t x f, ty, pos, af, g⟩ W h W := by
 obtain ⟨b, o, cs, T, fr, rfl, h1, i⟩ := n
 refine ⟨_, ⟨b, o + off, cs, T, fr, rfl, h1, fun j y c => ?_⟩, fun W => kD k q⟩
 have m : j < a.length := (bA.1 c).1
 have := i (off + j) y (by
  rw [← s, dA m, dw] at c
  exact c)
 rw [eX]
 exact this
theorem nv {x : Operand} {a : Addr} (c : kG E x = .pointer (some a)) : mw P E ⟨d, .nilCheck x, ty, pos, af, g⟩ W (.pointer (some a)) W := by
 unfold mw execOp
 simp [c]
theorem KA {α : Type} {R : rA α} {k : Nat} {t e : TypeId} {x h : Operand} {Q : IntKind} {v : Value} {i : Int} {l : List α} {x0 : α} (L : P.underlying t = some (.slice e)) (he : ∀ w, (sizeOf e).run P w = .ok k w) (M : kG E x = v) (G : kG E h = .int Q i) (J : Sl R k μ v l) (n : 0 ≤ i) (m : l[i.toNat]? = some x0) :
  ∃ p ys, ys.length = k ∧ R μ ys x0 ∧ At μ p ys ∧ ∀ W, mw P E ⟨d, .indexAddr t x h, ty, pos, af, g⟩ W p W := by
 obtain ⟨A, c, rfl, U, Y, o⟩ := J
 have I : i.toNat < l.length := (bA.1 m).1
 obtain ⟨b, off, cs, T, fr, rfl, q, s⟩ := o (by omega)
 obtain ⟨ys, u, z, a⟩ := s i.toNat x0 m
 refine ⟨.pointer (some ⟨b, off + i.toNat * k, none⟩), ys, u, z, ⟨b, off + i.toNat * k, cs, T, fr, rfl, q, fun j y O => a j y O⟩, fun W => ?_⟩
 show (do pure (.value (← Instr.indexAt t (kG E x) (kG E h))) : Sem Next).run P W = _
 rw [M, G]
 have D : 0 ≤ i ∧ i < (l.length : Int) := ⟨n, by omega⟩
 simp [Instr.indexAt, asIntOf, aQ L, he W, D, dm]
theorem lO {α : Type} {enc : α → List Value} {k : Nat} {t e : TypeId} {x a : Operand} {y : IntKind} {v : Value} {i : Int} {l : List α} {x0 : α} (s : P.underlying t = some (.slice e)) (he : ∀ w, (sizeOf e).run P w = .ok k w) (u : kG E x = v) (n : kG E a = .int y i) (q : Sl (Pl enc) k μ v l) (c : 0 ≤ i) (o : l[i.toNat]? = some x0) :
  ∃ p, At μ p (enc x0) ∧ ∀ W, mw P E ⟨d, .indexAddr t x a, ty, pos, af, g⟩ W p W := by
 obtain ⟨p, ys, h1, h, j, m⟩ := KA (d := d) (ty := ty) (pos := pos) (af := af) (g := g) s he u n q c o
 cases h
 exact ⟨p, j, m⟩
theorem LI (P : Program) {W : World} {b off : Nat} {cs : Array Value} {T : TypeId} {fr : Nat × Nat} (a : W.heap[b]? = some (.cells cs T fr)) (ys : List Value) (d : ∀ j y, ys[j]? = some y → cs[off + j]? = some y) :
  (loadCells ⟨b, off, none⟩ ys.length).run P W = .ok ys.toArray W :=
 jb W ⟨b, off, none⟩ ys (fun j v c => by rw [dm, fI W b (off + j) cs T fr a]; exact d j v c)
theorem EX {W : World} {t : TypeId} {b off : Nat} {cs : Array Value} {T : TypeId} {fr : Nat × Nat} (a : ∀ w, (isAgg t).run P w = .ok true w) (ys : List Value) (c : ∀ w, (sizeOf t).run P w = .ok ys.length w) (d : W.heap[b]? = some (.cells cs T fr)) (g : ∀ j y, ys[j]? = some y → cs[off + j]? = some y) : (Instr.loadAt t (.pointer (some ⟨b, off, none⟩))).run P W = .ok (.agg ys.toArray) W := by
 simp [Instr.loadAt, Instr.sureAddr, loadVar, a W, c W, LI P d ys g]
theorem EN {W : World} {t : TypeId} {b off : Nat} {cs : Array Value} {T : TypeId} {fr : Nat × Nat} (a : ∀ w, (isAgg t).run P w = .ok false w) {y : Value} (c : W.heap[b]? = some (.cells cs T fr)) (g : cs[off]? = some y) : (Instr.loadAt t (.pointer (some ⟨b, off, none⟩))).run P W = .ok y W := by
 have d : W.cell? ⟨b, off, none⟩ = some y := by rw [fI W b off cs T fr c]; exact g
 simp [Instr.loadAt, Instr.sureAddr, loadVar, a W, load, Sem.run, d]
theorem kA {t : TypeId} {x : Operand} {a v : Value} (h : kG E x = a) (c : (Instr.loadAt t a).run P W = .ok v W) : mw P E ⟨d, .load t x, ty, pos, af, g⟩ W v W := by
 show (do pure (.value (← Instr.loadAt t (kG E x))) : Sem Next).run P W = _
 rw [h]; simp [c]
def rR (μ : lm) (A : List (Nat × Obj)) (W : World) : Prop := (∀ b o, μ b = some o → W.heap[b]? = some o) ∧ ∀ b o, (b, o) ∈ A → W.heap[b]? = some o
theorem ST.has (h : ST dd F w W μ L) : rR μ L W := ⟨h.mem, fun b o a => (h.box b o a).1⟩
theorem rR.sub {μ' : lm} {A A' : List (Nat × Obj)} (h : rR μ A W) (d : kY μ' μ) (c : ∀ p, p ∈ A' → p ∈ A) : rR μ' A' W := ⟨fun b o a => h.1 b o (d b o a), fun b o a => h.2 b o (c _ a)⟩
theorem lD {A : List (Nat × Obj)} (hH : rR μ A W) {t : TypeId} {p : Value} {ys : List Value} (hp : At μ p ys) (c : ∀ w, (isAgg t).run P w = .ok true w) (d : ∀ w, (sizeOf t).run P w = .ok ys.length w) :
  (Instr.loadAt t p).run P W = .ok (.agg ys.toArray) W := by
 obtain ⟨b, off, cs, T, fr, rfl, h1, a⟩ := hp
 exact EX c ys d (hH.1 _ _ h1) a
theorem ng {A : List (Nat × Obj)} (hH : rR μ A W) {t : TypeId} {p y : Value} (hp : At μ p [y]) (c : ∀ w, (isAgg t).run P w = .ok false w) :
  (Instr.loadAt t p).run P W = .ok y W := by
 obtain ⟨b, off, cs, T, fr, rfl, h1, a⟩ := hp
 exact EN c (hH.1 _ _ h1) (a 0 y rfl)
theorem kI {A : List (Nat × Obj)} (hH : rR μ A W) {t : TypeId} {b off : Nat} {cs : Array Value} {T : TypeId} {fr : Nat × Nat} (g : (b, Obj.cells cs T fr) ∈ A) (ys : List Value) (i : (cs.toList.drop off).take ys.length = ys) (d : ∀ w, (isAgg t).run P w = .ok true w) (h : ∀ w, (sizeOf t).run P w = .ok ys.length w) : (Instr.loadAt t (.pointer (some ⟨b, off, none⟩))).run P W = .ok (.agg ys.toArray) W :=
 EX d ys h (hH.2 _ _ g) (fun j y a => by
  have c : j < ys.length := (bA.1 a).1
  rw [← i, dA c, dw] at a
  simpa using a)
theorem kM {A : List (Nat × Obj)} (hH : rR μ A W) {t : TypeId} {b off : Nat} {cs : Array Value} {T : TypeId} {fr : Nat × Nat} (c : (b, Obj.cells cs T fr) ∈ A) {y : Value} (d : cs[off]? = some y) (a : ∀ w, (isAgg t).run P w = .ok false w) : (Instr.loadAt t (.pointer (some ⟨b, off, none⟩))).run P W = .ok y W :=
 EN a (hH.2 _ _ c) d
theorem nc {t : TypeId} {a : Array (Nat × Operand)} {c : Array (Nat × Value)} {v : Value} (h : a.map (fun (i, x) => (i, kG E x)) = c) (j : ∀ W, (Instr.build t c).run P W = .ok v W) : mw P E ⟨d, .build t a, ty, pos, af, g⟩ W v W := by
 show (do pure (.value (← Instr.build t (a.map fun (i, x) => (i, kG E x)))) : Sem Next).run P W = _
 rw [h]; simp [j W]
theorem mB {t : TypeId} {z cs : Array Value} {a : Array Field} {c : Array (Nat × Value)} {pl : Array (Nat × Nat)} (h : ∀ w, (zeroValue t).run P w = .ok (.agg z) w) (g : P.underlying t = some (.struct a)) (hp : ∀ w, (a.mapM fun f => do pure (f.offset, ← sizeOf f.type) : Sem (Array (Nat × Nat))).run P w = .ok pl w) (d : Instr.fill (pl[·]?) z c.toList = some cs) (W : World) : (Instr.build t c).run P W = .ok (.agg cs) W := by
 simp only [Instr.build, cd, h W, bK, aQ g, Value.cells]
 rw [hp W]
 simp only [bK, d, da]
end
theorem HD {α : Type} : ∀ (a : Ask α) (w : World), w.drawn ≤ (w.ask a).2.drawn
 | .done a, w => by simp [World.ask]
 | .ask c range k, w => by
  unfold World.ask
  dsimp only
  split
  ·exact HD (k 0) w
  ·refine dj (jv w.drawn) ?_
   exact HD _ { w with drawn := w.drawn + 1 }
theorem RU (w : World) (c : Sys) : w.drawn ≤ (w.sys c).2.drawn := by
 have h := HD (Kernel.perform c w.os) w
 unfold World.sys
 generalize w.ask (Kernel.perform c w.os) = r at *
 obtain ⟨⟨a, d⟩, g⟩ := r
 cases a <;> simp at h ⊢ <;> exact h
theorem Js {p : Program} {w c : World} {a : Addr} {u : TypeId} {k : Addr} {v : Value} {b : Bool} {l : List Addr} (h : w.viewStore p a u k v b = .ok (c, l)) : c.drawn = w.drawn := by
 unfold World.viewStore at h
 simp only [bind, Except.bind, pure, Except.pure] at h
 split at h
 ·cases h
 ·split at h
  ·cases h
  ·split at h
   ·split at h
    ·cases h
    ·split at h
     ·cases h
     ·cases h; rfl
   ·cases h
theorem KG {p : Program} {w c : World} {a : Addr} {v : Value} {b : Bool} {l : List Addr} (h : w.farStore p a v b = .ok (c, l)) : c.drawn = w.drawn := by
 unfold World.farStore at h
 split at h
 ·split at h
  ·rename_i h1; cases h; exact Js h1
  ·cases h
 ·cases h
theorem pf {α : Type} {p : Program} : ∀ (s : Sem α) (w d : World) (a : α), s.run p w = .ok a d → w.drawn ≤ d.drawn
 | .pure a, w, d, b, h => by simp only [Sem.run] at h; cases h; exact bB _
 | .load m a k, w, d, b, h => by
  simp only [Sem.run] at h
  split at h
  ·exact pf _ _ _ _ h
  ·split at h
   ·exact pf _ _ _ _ h
   ·cases h
 | .store m a v k, w, d, b, h => by
  have key : ∀ (r : Result α) i, r = .ok b d → (r = (match w.cell? a with
    | some _ => if w.frozen? a then .halt i w else k.run p (w.setCell a v)
    | none => match w.farStore p a v (m == .atomic) with
     | .ok (w, _) => k.run p w
     | .error h => .halt h w)) → w.drawn ≤ d.drawn := by
   intro r i j h
   rw [j] at h
   split at h
   ·split at h
    ·cases h
    ·have := pf k _ _ _ h.symm
     simpa [World.setCell] using this
   ·split at h
    ·rename_i h1
     have g := pf k _ _ _ h.symm
     rw [KG h1] at g
     exact g
    ·cases h
  cases v with
  | agg cs => simp only [Sem.run] at h; cases h
  | tuple cs => simp only [Sem.run] at h; cases h
  | _ => exact key _ _ h (by simp only [Sem.run]; rfl)
 | .new o k, w, d, b, h => by simp only [Sem.run] at h; have := pf (k _) _ _ _ h; exact this
 | .shape r k, w, d, b, h => by simp only [Sem.run] at h; exact pf _ _ _ _ h
 | .freeze a n k, w, d, b, h => by
  simp only [Sem.run] at h
  have := pf k _ _ _ h
  unfold World.freeze at this
  split at this <;> exact this
 | .frozen a k, w, d, b, h => by simp only [Sem.run] at h; exact pf _ _ _ _ h
 | .getObj r k, w, d, b, h => by
  simp only [Sem.run] at h
  split at h <;> try (cases h; done)
  exact pf _ _ _ _ h
 | .setObj r o k, w, d, b, h => by
  simp only [Sem.run] at h
  split at h <;> try (cases h; done)
  have := pf k _ _ _ h
  exact this
 | .choose q k, w, d, b, h => by
  simp only [Sem.run] at h
  split at h
  ·exact pf _ _ _ _ h
  ·exact dj (jv _) (pf _ _ _ _ h)
 | .sys c k, w, d, b, h => by
  simp only [Sem.run] at h
  exact dj (RU w c) (pf _ _ _ _ h)
 | .program k, w, d, b, h => by simp only [Sem.run] at h; exact pf _ _ _ _ h
 | .mark m k, w, d, b, h => by simp only [Sem.run] at h; exact pf k _ _ _ h
 | .halt x, w, d, b, h => by simp only [Sem.run] at h; cases h
end Go.Proofs.YtbnbdigcbldfhaaGreat
namespace Go.Proofs.YtbnbdigcbldfhaaGreat
open Go.RowKit
variable {dd : Bool}
section
variable {P : Program} {n : Nat} {Q : oD} {E : Nat → Value} {W : World} {ops : Array Oper} {rest : List Oper}
 {d : Option Nat} {ty : TypeId} {pos : String} {af : Array Edge} {g : Option (Nat × Bool)}
 {F : Nat → Prop} {w : World} {μ : lm} {L : List (Nat × Obj)}
def nH (P : Program) (E : Nat → Value) (o : Oper) (W : World) (K : Value → World → Prop) : Prop :=
 (∃ v W', (execOp (kG E) o).run P W = .ok (.value v) W' ∧ K v W') ∨ (∃ W', (execOp (kG E) o).run P W = .ok .skip W' ∧ K undef W') ∨
 (∃ f args, (execOp (kG E) o).run P W = .ok (.enter f args) W ∧ Calls P f args W fun e a => ∃ v, e = .returned v ∧ K v a)
theorem nH.mono {o : Oper} {K K' : Value → World → Prop} (h : nH P E o W K) (hk : ∀ v W', K v W' → K' v W') : nH P E o W K' := by
 rcases h with ⟨v, W', h1, a⟩ | ⟨W', h1, a⟩ | ⟨f, args, h1, a⟩
 ·exact .inl ⟨v, W', h1, hk _ _ a⟩
 ·exact .inr (.inl ⟨W', h1, hk _ _ a⟩)
 ·exact .inr (.inr ⟨f, args, h1, cH a (fun _ _ ⟨v, c, d⟩ => ⟨v, c, hk _ _ d⟩)⟩)
theorem Wk {o : Oper} {dd : Nat} (hw : mA n ops E o) (d : o.dst = some dd) (g : dd < n) (h : nH P E o W fun v W' => LW P n ops Q rest (nA E dd v) W') : LW P n ops Q (o :: rest) E W := by
 rcases h with ⟨v, W', h1, c⟩ | ⟨W', h1, c⟩ | ⟨f, args, h1, c⟩
 ·exact Se hw d g h1 c
 ·intro a ha
  unfold wpList
  rw [aM (hw.of ha)]
  refine .inl ?_
  unfold Oper.wp
  rw [ha.eval, h1, fc, d]
  exact c _ (ha.put g _)
 ·exact TO hw d g h1 c
theorem X9 {o : Oper} (hw : mA n ops E o) (d : o.dst = none) (h : nH P E o W fun _ W' => LW P n ops Q rest E W') : LW P n ops Q (o :: rest) E W := by
 rcases h with ⟨v, W', h1, c⟩ | ⟨W', h1, c⟩ | ⟨f, args, h1, c⟩
 ·intro a ha
  unfold wpList
  rw [aM (hw.of ha)]
  refine .inl ?_
  unfold Oper.wp
  rw [ha.eval, h1, dT, d]
  exact c _ (ha.xa _)
 ·exact Tk hw d h1 c
 ·intro a ha
  unfold wpList
  rw [aM (hw.of ha)]
  refine .inl ?_
  unfold Oper.wp
  rw [ha.eval, h1, dU]
  refine cH c ?_
  rintro e i ⟨v, rfl, g⟩
  simp only [d]
  exact g _ (ha.xa _)
theorem lB {K : Value → World → Prop} {t : TypeId} {x : Operand} {v : Value} (a : ST dd F w W μ L) (c : kG E x = v) (h : ∀ W' b, ST dd F w W' μ ((b, .cells v.cells t (0, 0)) :: L) → K (.pointer (some ⟨b, 0, none⟩)) W') : nH P E ⟨d, .box t x, ty, pos, af, g⟩ W K :=
 .inl ⟨.pointer (some ⟨W.heap.size, 0, none⟩), W.alloc (.cells v.cells t (0, 0)), by
   show (do pure (.value (← Instr.box t (kG E x))) : Sem Next).run P W = _
   rw [c]
   simp [Instr.box, newVar, newRow, newObj, Sem.run], h _ _ (a.alloc _)⟩
theorem lA {K : Value → World → Prop} {t : TypeId} {z : Value} (a : ST dd F w W μ L) (c : ∀ w, (zeroValue t).run P w = .ok z w) (h : ∀ W' b, ST dd F w W' μ ((b, .cells z.cells t (0, 0)) :: L) → K (.pointer (some ⟨b, 0, none⟩)) W') : nH P E ⟨d, .alloc t, ty, pos, af, g⟩ W K :=
 .inl ⟨.pointer (some ⟨W.heap.size, 0, none⟩), W.alloc (.cells z.cells t (0, 0)), by
   show (do pure (.value (← Instr.alloc t true (.tuple #[]))) : Sem Next).run P W = _
   simp [Instr.alloc, c W, newVar, newRow, newObj, Sem.run], h _ _ (a.alloc _)⟩
theorem J7 {t e : TypeId} {m k : Nat} {z : Value} {d : Array (Nat × Value)} {cs : Array Value} (h : P.underlying t = some (.slice e)) (g : ∀ w, (sizeOf e).run P w = .ok k w) (j : ∀ w, (zeroValue e).run P w = .ok z w) (hm : m * k ≤ 16777216) (a : Instr.fill (fun i => some (i * k, k)) ((Array.range (m * k)).map (fun i => (if m * k = 0 then (#[] : Array Value) else z.cells)[i % (if m * k = 0 then (#[] : Array Value) else z.cells).size]!)) d.toList = some cs) (W : World) :
  (Instr.buildSlice t m d).run P W = .ok (.slice (some ⟨W.heap.size, 0, none⟩) m m) (W.alloc (.cells cs e (0, 0))) := by
 simp only [Instr.buildSlice, cd, aQ h, bK, g W]
 rw [aK (by omega)]
 by_cases c : m * k = 0
 ·simp only [c, bc] at a ⊢
  simp only [cd, da, bK, a]
  simp [newRow, newObj, Sem.run]
 ·simp only [c, aP] at a ⊢
  simp only [cd, j W, da, bK, a]
  simp [newRow, newObj, Sem.run]
theorem lg {K : Value → World → Prop} {t e : TypeId} {m : Nat} {c : Array (Nat × Operand)} {j : Array (Nat × Value)} {cs : Array Value} (a : ST dd F w W μ L) (k : c.map (fun (i, x) => (i, kG E x)) = j) (n : ∀ W, (Instr.buildSlice t m j).run P W = .ok (.slice (some ⟨W.heap.size, 0, none⟩) m m) (W.alloc (.cells cs e (0, 0)))) (h : ∀ W' b, ST dd F w W' μ ((b, .cells cs e (0, 0)) :: L) → K (.slice (some ⟨b, 0, none⟩) m m) W') : nH P E ⟨d, .buildSlice t m c, ty, pos, af, g⟩ W K :=
 .inl ⟨.slice (some ⟨W.heap.size, 0, none⟩) m m, W.alloc (.cells cs e (0, 0)), by
   show (do pure (.value (← Instr.buildSlice t m (c.map fun (i, x) => (i, kG E x)))) : Sem Next).run P W = _
   rw [k]
   simp [n W], h _ _ (a.alloc _)⟩
theorem ST.store {A B : List (Nat × Obj)} {b : Nat} {cs : Array Value} {t : TypeId} (a : ST dd F w W μ (A ++ (b, .cells cs t (0, 0)) :: B)) (cs' : Array Value) :
  ST dd F w (W.setRow b cs') μ (A ++ (b, .cells cs' t (0, 0)) :: B) := by
 have c := (a.box b _ (by simp : (b, Obj.cells cs t (0, 0)) ∈ A ++ (b, .cells cs t (0, 0)) :: B)).1
 refine a.put ⟨rfl, rfl, rfl, bB _, by simp [World.setRow]⟩ (fun k hk => ?_) (setRow_heap W b cs cs' t (0, 0) c)
 simp only [World.setRow, dK]
 rw [aK (fun e => hk e.symm)]
theorem E4 (P : Program) {W : World} {t : TypeId} {b off : Nat} {cs : Array Value} {T : TypeId} (v : Value) (a : ∀ w, (sizeOf t).run P w = .ok v.cells.size w) (h1 : ∀ u ∈ v.cells.toList, u.oneCell' = true) (c : W.heap[b]? = some (.cells cs T (0, 0))) (d : off + v.cells.size ≤ cs.size) : (Instr.storeAt t (.pointer (some ⟨b, off, none⟩)) v).run P W = .ok () (W.setRow b (cs.toList.take off ++ v.cells.toList ++ cs.toList.drop (off + v.cells.size)).toArray) := by
 have := jw (P := P) b off T v.cells.toList 0 cs W c (by simpa using d) h1
 simp [Instr.storeAt, Instr.sureAddr, storeVar, a W]
 simpa using this
theorem De {K : Value → World → Prop} (A : List (Nat × Obj)) {B : List (Nat × Obj)} {t : TypeId} {x y : Operand} (v : Value) {b off : Nat} {cs : Array Value} {T : TypeId} (cs' : Array Value) (a : ST dd F w W μ (A ++ (b, .cells cs T (0, 0)) :: B)) (m : kG E x = .pointer (some ⟨b, off, none⟩)) (n : kG E y = v) (c : ∀ w, (sizeOf t).run P w = .ok v.cells.size w) (h1 : ∀ u ∈ v.cells.toList, u.oneCell' = true) (k : off + v.cells.size ≤ cs.size) (j : (cs.toList.take off ++ v.cells.toList ++ cs.toList.drop (off + v.cells.size)).toArray = cs') (h : ∀ W', ST dd F w W' μ (A ++ (b, .cells cs' T (0, 0)) :: B) → K undef W') : nH P E ⟨d, .store t x y, ty, pos, af, g⟩ W K :=
 .inr (.inl ⟨W.setRow b cs', by
   show (do Instr.storeAt t (kG E x) (kG E y); pure .skip : Sem Next).run P W = _
   have i := (a.box b _ (by simp : (b, Obj.cells cs T (0, 0)) ∈ A ++ (b, .cells cs T (0, 0)) :: B)).1
   rw [m, n]
   simp only [cd, E4 P v c h1 i k, j, bK, da], h _ (a.store cs')⟩)
def la (dd : Bool) (P : Program) (f : FuncId) (args : List Value) (w : World) (v : Value) : Prop := Calls P f args.toArray w fun e a => e = .returned v ∧ Ex dd w a
theorem Li {f : FuncId} {fv : Operand} {ax : Array Operand} {ats : Array TypeId} {caps args : Array Value} (a : kG E fv = .func (.func f) #[] caps) (he : ∀ args w, (callFunc f args).run P w = .ok (.enter f args) w) (ha : ax.map (kG E) ++ caps = args) :
  (execOp (kG E) ⟨d, .call ⟨.value fv, ax, ats⟩, ty, pos, af, g⟩).run P W = .ok (.enter f args) W := by
 show (do let d ← resolve (kG E) ⟨.value fv, ax, ats⟩ ty; invoke d.target d.args : Sem Next).run P W = _
 rw [← ha]
 simp only [resolve, a, Deferred.ofValue, cd, da, bK, invoke]
 simp [he]
theorem HM {K : Value → World → Prop} {f : FuncId} {fv : Operand} {ax : Array Operand} {ats : Array TypeId} {caps args : Array Value} (a : kG E fv = .func (.func f) #[] caps) (he : ∀ args w, (callFunc f args).run P w = .ok (.enter f args) w) (ha : ax.map (kG E) ++ caps = args) (h : Calls P f args W fun e c => ∃ v, e = .returned v ∧ K v c) : nH P E ⟨d, .call ⟨.value fv, ax, ats⟩, ty, pos, af, g⟩ W K :=
 .inr (.inr ⟨f, args, Li a he ha, h⟩)
theorem Pv {K : Value → World → Prop} {f : FuncId} {fv : Operand} {ax : Array Operand} {ats : Array TypeId} {args : List Value} {v : Value} (a : ST dd F w W μ L) (j : kG E fv = .func (.func f) #[] #[]) (he : ∀ args w, (callFunc f args).run P w = .ok (.enter f args) w) (ha : (ax.map (kG E) ++ (#[] : Array Value)) = args.toArray) (i : la dd P f args W v) (h : ∀ W', ST dd F w W' μ L → K v W') : nH P E ⟨d, .call ⟨.value fv, ax, ats⟩, ty, pos, af, g⟩ W K :=
 HM j he ha (cH i (fun _ _ ⟨h1, c⟩ => ⟨v, h1, h _ (a.HP c)⟩))
def kU {α : Type} (e : TypeId) (enc : α → List Value) (k : Nat) (v : Value) (l : List α) (R : List (Nat × Obj)) : Prop :=
 (v = .slice none 0 0 ∧ l = [] ∧ R = []) ∨
 ∃ g cap a, v = .slice (some ⟨g, 0, none⟩) l.length cap ∧ R = [(g, .cells a e (0, 0))] ∧ l.length ≤ cap ∧ cap ≤ maxLen ∧ a.size = cap * k ∧ a.toList.take (l.length * k) = (l.map enc).flatten
theorem pJ {α : Type} {enc : α → List Value} {k : Nat} (hk : ∀ x, (enc x).length = k) : ∀ l : List α, (l.map enc).flatten.length = l.length * k
 | [] => by simp
 | x :: l => by simp [pJ hk l, hk x, cA, jU]
theorem yU {α : Type} {enc : α → List Value} {k : Nat} (hk : ∀ x, (enc x).length = k) : ∀ (l : List α) (i : Nat) (x : α), l[i]? = some x → ∀ j y, (enc x)[j]? = some y → (l.map enc).flatten[i * k + j]? = some y
 | [], i, x, h => by cases h
 | z :: l, 0, x, h => by
  simp at h; subst h
  intro j y a
  have c : j < (enc z).length := (bA.1 a).1
  simp [fJ, c]
  rw [cj c] at a
  simpa using a
 | z :: l, i + 1, x, h => by
  intro j y a
  have := yU hk l i x (by simpa using h) j y a
  simp only [bD, dt]
  rw [fK (by rw [hk z]; have := Nat.le_mul_of_pos_left k (Nat.succ_pos i); simp [cA] at *; omega), hk z]
  rw [show (i + 1) * k + j - k = i * k + j by rw [cA]; omega]
  exact this
theorem IT {α : Type} {enc : α → List Value} {k : Nat} (hk : ∀ x, (enc x).length = k) : ∀ (l : List α) (q : Nat) (y : Value), (l.map enc).flatten[q]? = some y → ∃ i x j, l[i]? = some x ∧ (enc x)[j]? = some y ∧ q = i * k + j
 | [], q, y, h => by simp at h
 | z :: l, q, y, h => by
  simp only [bD, dt] at h
  by_cases c : q < k
  ·rw [List.getElem?_append_left (by rw [hk]; exact c)] at h
   exact ⟨0, z, q, rfl, h, by simp⟩
  ·rw [fK (by rw [hk]; omega), hk] at h
   obtain ⟨i, x, j, h1, a, d⟩ := IT hk l (q - k) y h
   exact ⟨i + 1, x, j, by simpa using h1, a, by rw [cA]; omega⟩
theorem kU.nil {α : Type} (e : TypeId) (enc : α → List Value) (k : Nat) : kU e enc k (.slice none 0 0) [] [] := .inl ⟨rfl, rfl, rfl⟩
theorem kU.sl {α : Type} {e : TypeId} {enc : α → List Value} {k : Nat} {v : Value} {l : List α} {R : List (Nat × Obj)} {m : lm} (h : kU e enc k v l R) (hk : ∀ x, (enc x).length = k) (hm : ∀ b o, (b, o) ∈ R → m b = some o) : Sl (Pl enc) k m v l := by
 rcases h with ⟨rfl, rfl, rfl⟩ | ⟨g, cap, a, rfl, rfl, h1, d, t, n⟩
 ·exact Sl.nil _ _ _
 ·refine ⟨_, cap, rfl, h1, d, fun _ => ⟨g, 0, a, e, (0, 0), rfl, hm _ _ (by simp), fun i x q => ⟨enc x, hk x, rfl, fun j y s => ?_⟩⟩⟩
  have := yU hk l i x q j y s
  rw [← n] at this
  have c : i * k + j < l.length * k := by
   have := (bA.1 this).1
   simp at this; omega
  rw [dA c] at this
  simpa using this
theorem kU.len {α : Type} {e : TypeId} {enc : α → List Value} {k : Nat} {v : Value} {l : List α} {R : List (Nat × Obj)} (h : kU e enc k v l R) : l.length ≤ 9223372036854775807 := by
 rcases h with ⟨rfl, rfl, rfl⟩ | ⟨g, cap, a, rfl, rfl, h1, c, d, i⟩
 ·simp
 ·unfold maxLen at c; omega
theorem kU.fr {α : Type} {e : TypeId} {enc : α → List Value} {k : Nat} {v : Value} {l : List α} {R X Y : List (Nat × Obj)} (h : kU e enc k v l R) (a : ST dd ll w W μ (X ++ (R ++ Y))) : Fr w.heap.size v := by
 rcases h with ⟨rfl, rfl, rfl⟩ | ⟨g, cap, d, rfl, rfl, h1, i, j, m⟩
 ·exact Fr.nil _
 ·intro b c
  simp [Value.ownBlock] at c
  subst c
  rcases (a.box g _ (by simp; exact .inr (.inl rfl))).2.2 with h | h
  ·exact h
  ·exact h.elim
theorem kU.lit {α : Type} {e : TypeId} {enc : α → List Value} {k b m : Nat} {l : List α} {cs : Array Value} (hm : l.length = m) (c : m ≤ maxLen) (d : cs.toList = (l.map enc).flatten) (a : cs.size = m * k) : kU e enc k (.slice (some ⟨b, 0, none⟩) m m) l [(b, .cells cs e (0, 0))] := by
 subst hm
 refine .inr ⟨b, _, cs, rfl, rfl, bB _, c, a, ?_⟩
 rw [← d, ← a]
 exact cX (by rw [cU]; exact bB _)
def mJ {α : Type} (a : Nat) (l m : List α) : Option (List α) := if (l.length + m.length) * a ≤ 140737488355328 ∧ l.length + m.length ≤ maxLen then some (l ++ m) else none
theorem Nc {K : Value → World → Prop} {α : Type} {e t : TypeId} {enc : α → List Value} {k ab : Nat} {z v vs : Value} {l m r : List α} {R : List (Nat × Obj)} (X : List (Nat × Obj)) {Y : List (Nat × Obj)} {x y : Operand} {i : TypeInfo} (s : ST dd F w W μ (X ++ (R ++ Y))) (hk : ∀ x, (enc x).length = k) (b3 : 0 < k) (h1 : ∀ x, ∀ u ∈ enc x, u.oneCell' = true) (ht : P.underlying t = some (.slice e)) (hi : P.info? e = some i) (hz : i.zero = some z) (b7 : z.cells.size = k) (b4 : i.size = k) (b1 : i.bytes = ab) (hx : kG E x = v) (hy : kG E y = vs) (hR : kU e enc k v l R) (hs : Sl (Pl enc) k (hp W) vs m) (n : mJ ab l m = some r) (h : ∀ W' v' R', ST dd F w W' μ (X ++ (R' ++ Y)) → kU e enc k v' r R' → K v' W') : nH P E ⟨d, .call ⟨.builtin .append, #[x, y], #[t, t]⟩, ty, pos, af, g⟩ W K := by
 unfold mJ at n
 split at n
 case isFalse => cases n
 rename_i aj
 cases n
 have aa : ∀ (V : Value) (W' : World), (Builtin.append_ #[t, t] ty #[v, vs]).run P W = .ok V W' → (execOp (kG E) ⟨d, .call ⟨.builtin .append, #[x, y], #[t, t]⟩, ty, pos, af, g⟩).run P W = .ok (.value V) W' := by
  intro V W' hV
  show (do let d ← resolve (kG E) ⟨.builtin .append, #[x, y], #[t, t]⟩ ty; invoke d.target d.args : Sem Next).run P W = _
  simp [resolve, invoke, builtin, hx, hy, hV]
 obtain ⟨A, c, rfl, bd, bf, b2⟩ := hs
 have a8 : W.ownsRow 0 e k v l.length (l.map enc).flatten := by
  refine ⟨pJ hk l, ?_⟩
  rcases hR with ⟨rfl, rfl, rfl⟩ | ⟨g, cap, J, rfl, rfl, h1, h2, h3, h4⟩
  ·exact .inl ⟨rfl, rfl⟩
  ·exact .inr ⟨g, cap, J, rfl, dV _, (s.box g _ (by simp)).1, h1, h2, h3, h4⟩
 have av : m.length = 0 ∨ ∃ ad, A = some ad ∧ ∀ j u, (m.map enc).flatten[j]? = some u → W.cell? (ad.add j) = some u := by
  rcases dG m.length with O | O
  ·exact .inl O
  ·obtain ⟨b, off, cs, T, fr, rfl, h6, h7⟩ := b2 O
   refine .inr ⟨⟨b, off, none⟩, rfl, fun j u hu => ?_⟩
   obtain ⟨i, x, q, h8, h9, rfl⟩ := IT hk m j u hu
   obtain ⟨ys, _, ay, az⟩ := h7 i x h8
   cases ay
   rw [dm, fI W b (off + (i * k + q)) cs T fr h6, ← eX]
   exact az q u h9
 have au : ∀ u ∈ (m.map enc).flatten, u.oneCell' = true := by
  intro u hu
  obtain ⟨ys, b6, b5⟩ := ir.1 hu
  obtain ⟨x, _, rfl⟩ := bH.1 b6
  exact h1 x u b5
 by_cases ap : m.length = 0
 ·have hm : m = [] := bR ap
  subst hm
  have hr : (Builtin.append_ #[t, t] ty #[v, .slice A 0 c]).run P W = .ok v W := by
   rcases a8.2 with ⟨rfl, O⟩ | ⟨g, cap, J, rfl, _, hg, aq, _, bh, _⟩
   ·cases A with
    | none => simp [Builtin.append_, aQ ht, sizeOf, typeInfo, hi, Builtin.lenOf, Builtin.firstCells]
    | some ad => simp [Builtin.append_, aQ ht, sizeOf, typeInfo, hi, Builtin.lenOf, Builtin.firstCells, loadCells, loadCellsFrom]
   ·cases A with
    | none => simp [Builtin.append_, aQ ht, sizeOf, typeInfo, hi, Builtin.lenOf, Builtin.firstCells, aq, storeCells]
    | some ad => simp [Builtin.append_, aQ ht, sizeOf, typeInfo, hi, Builtin.lenOf, Builtin.firstCells, loadCells, loadCellsFrom, aq, storeCells]
  exact .inl ⟨v, W, aa _ _ (by simpa using hr), by simpa using h W v R s (by simpa using hR)⟩
 rcases av with O | ⟨ad, rfl, a1⟩
 ·exact absurd O ap
 obtain ⟨v', W', hr, ah, D, ba, M⟩ := run_append_own_at (P := P) W 0 t ty e i z k ab ht hi hz b4 b1 b7 b3 v l.length (l.map enc).flatten a8 ad m.length c (m.map enc).flatten (pJ hk m) a1 au aj.2 aj.1 (dV _)
 have ae := pf _ _ _ _ hr
 refine .inl ⟨v', W', aa _ _ hr, ?_⟩
 have hlen : (l ++ m).length = l.length + m.length := by simp
 rcases ah.2 with ⟨_, O⟩ | ⟨U, a6, a7, rfl, _, ag, b9, ak, an, aw⟩
 ·omega
 have ai : kU e enc k (.slice (some ⟨U, 0, none⟩) (l.length + m.length) a6) (l ++ m) [(U, .cells a7 e (0, 0))] :=
  .inr ⟨U, a6, a7, by rw [hlen], rfl, by omega, ak, an, by rw [hlen, aw]; simp⟩
 refine h W' _ _ ?_ ai
 have ar := s.nd
 rcases hR with ⟨rfl, rfl, rfl⟩ | ⟨g, cap, J, rfl, rfl, q1, q2, q3, q4⟩
 ·-- nil: a new block
  have Z : W.heap.size ≤ U := by
   rcases M with h | h <;> simp [Value.ownBlock] at h
   omega
  have hex : Ex dd W W' := ⟨D.os, D.tape, D.output, uX.of ae, D.size, fun b n => D.block b n (by simp [Value.ownBlock])⟩
  have h1 := s.HP hex
  refine ⟨h1.os, h1.tape, h1.output, h1.drawn, h1.size, h1.na, h1.mem, fun b o n => ?_, ?_⟩
  ·simp only [aS, aO] at n
   rcases n with n | n | n
   ·exact h1.box b o (by simp [n])
   ·cases n
    refine ⟨ag, ?_, .inl (dj s.size Z)⟩
    cases hm : μ U with
    | none => rfl
    | some x => have := s.FK hm; omega
   ·exact h1.box b o (by simp [n])
  ·simp only [bU, ct, bD, db] at ar ⊢
   refine (fX fe).2 (cK.2 ⟨fun hm => ?_, ar⟩)
   rw [← ct] at hm
   obtain ⟨⟨b, o⟩, n, L⟩ := bH.1 hm
   have b0 : (b, o) ∈ X ++ ([] ++ Y) := by simpa using n
   have := s.GN b0
   simp at L
   omega
 ·by_cases ao : U = g
  ·subst ao
   have O : ST dd F w W μ (X ++ (U, Obj.cells J e (0, 0)) :: Y) := by simpa using s
   have hold : ∀ b, b < W.heap.size → b ≠ U → W'.heap[b]? = W.heap[b]? := fun b n I => D.block b n (by simp [Value.ownBlock]; exact I)
   have G := O.nd
   simp only [ct, bD] at G
   have I : ∀ b o, (b, o) ∈ X ++ Y → b ≠ U := fun b o n L => by
    subst L
    rcases aS.1 n with n | n
    ·exact (bN.1 G).2.2 b (bH.2 ⟨_, n, rfl⟩) b (by simp) rfl
    ·exact (cK.1 (bN.1 G).2.1).1 (bH.2 ⟨_, n, rfl⟩)
   have Q := O.box U (Obj.cells J e (0, 0)) (by simp)
   refine ⟨D.os.trans s.os, D.tape.trans s.tape, D.output.trans s.output, uX.trans s.drawn (uX.of ae), dj s.size D.size, fun b n hF => ?_, fun b o n => ?_, fun b o n => ?_, by simpa using G⟩
   ·rw [hold b (cO n s.size) (fun L => by subst L; rcases Q.2.2 with h | h; omega; exact hF h)]
    exact s.na b n hF
   ·rw [hold b (s.FK n) (fun L => by subst L; rw [Q.2.1] at n; cases n)]
    exact s.mem b o n
   ·simp only [aS, aO] at n
    rcases n with n | n | n
    ·obtain ⟨r1, r2⟩ := s.box b o (by simp [n])
     exact ⟨by rw [hold b (oM r1) (I b o (by simp [n]))]; exact r1, r2⟩
    ·cases n; exact ⟨ag, Q.2⟩
    ·obtain ⟨r1, r2⟩ := s.box b o (by simp [n])
     exact ⟨by rw [hold b (oM r1) (I b o (by simp [n]))]; exact r1, r2⟩
  ·have Z : W.heap.size ≤ U := by
    rcases M with h | h <;> simp [Value.ownBlock] at h
    ·exact absurd h ao
    ·omega
   have O : ST dd F w W μ (X ++ (g, Obj.cells J e (0, 0)) :: Y) := by simpa using s
   have Q := O.box g (Obj.cells J e (0, 0)) (by simp)
   have G := O.nd
   simp only [ct, bD] at G
   have I : ∀ b o, (b, o) ∈ X ++ Y → b ≠ g := fun b o n L => by
    subst L
    rcases aS.1 n with n | n
    ·exact (bN.1 G).2.2 b (bH.2 ⟨_, n, rfl⟩) b (by simp) rfl
    ·exact (cK.1 (bN.1 G).2.1).1 (bH.2 ⟨_, n, rfl⟩)
   have hold : ∀ b, b < W.heap.size → b ≠ g → W'.heap[b]? = W.heap[b]? := fun b n I => D.block b n (by simp [Value.ownBlock]; exact I)
   refine ⟨D.os.trans s.os, D.tape.trans s.tape, D.output.trans s.output, uX.trans s.drawn (uX.of ae), dj s.size D.size, fun b n hF => ?_, fun b o n => ?_, fun b o n => ?_, ?_⟩
   ·rw [hold b (cO n s.size) (fun L => by subst L; rcases Q.2.2 with h | h; omega; exact hF h)]
    exact s.na b n hF
   ·rw [hold b (s.FK n) (fun L => by subst L; rw [Q.2.1] at n; cases n)]
    exact s.mem b o n
   ·simp only [aS, aO] at n
    rcases n with n | n | n
    ·obtain ⟨r1, r2⟩ := s.box b o (by simp [n])
     exact ⟨by rw [hold b (oM r1) (I b o (by simp [n]))]; exact r1, r2⟩
    ·cases n
     refine ⟨ag, ?_, .inl (dj s.size Z)⟩
     cases hm : μ U with
     | none => rfl
     | some x => have := s.FK hm; omega
    ·obtain ⟨r1, r2⟩ := s.box b o (by simp [n])
     exact ⟨by rw [hold b (oM r1) (I b o (by simp [n]))]; exact r1, r2⟩
   ·have aE : (X.map (·.1) ++ Y.map (·.1)).Nodup := (cK.1 ((fX fe).1 G)).2
    simp only [ct, bD, db]
    refine (fX fe).2 (cK.2 ⟨fun hm => ?_, aE⟩)
    rw [← ct] at hm
    obtain ⟨⟨b, o⟩, n, L⟩ := bH.1 hm
    have := s.GN (b := b) (o := o) (by rcases aS.1 n with h | h <;> simp [h])
    simp at L
    omega
end
end Go.Proofs.YtbnbdigcbldfhaaGreat
namespace Go.Proofs.YtbnbdigcbldfhaaGreat
open Go.RowKit
def yu (l : List Value) : Nat → Value := fun t => l.getD t undef
def yL (P : Program) (fn : Func) (R : Ending → World → Prop) : oD
 | .normal, E, W | .ret, E, W => ∃ v, (∀ tmps : Array Value, (∀ t, tmps.getD t undef = E t) → (results fn tmps).run P W = .ok v W) ∧ R (.returned v) W
 | _, _, _ => False
theorem zU {P : Program} {f : FuncId} {fn : Func} {c : Code} {args : List Value} {w : World} {R : Ending → World → Prop} {n : Nat} (q : P.funcs[f]? = some fn) (o : fn.body = some c) (s : fn.ntmps = n) (ha : args.length ≤ n) (h : CW P n c (yL P fn R) (yu args) w) : Calls P f args.toArray w R := by
 refine calls_of_wp q o ?_
 have j : Ag n { tmps := args.toArray ++ Array.replicate (fn.ntmps - args.toArray.size) undef, defers := [] } (yu args) := by
  refine ⟨by simp; omega, rfl, fun t => ?_⟩
  simp only [yu, cW, fL, fB, ga, cM, fC]
  by_cases m : t < args.length
  ·rw [aM m]
  ·rw [aK m, cR (by omega)]
   split <;> simp
 refine gd (h _ j) (fun e a u g => ?_)
 cases e with
 | normal =>
  obtain ⟨E, d, v, k, i⟩ := g
  exact ⟨d.2.1, v, k _ d.2.2, i⟩
 | ret =>
  obtain ⟨E, d, v, k, i⟩ := g
  exact ⟨d.2.1, v, k _ d.2.2, i⟩
 | exit id => obtain ⟨E, d, h⟩ := g; exact h.elim
 | goto l => obtain ⟨E, d, h⟩ := g; exact h.elim
 | panic c => exact g.2.elim
 | outgrown => exact g.elim
section
variable {P : Program} {fn : Func} {R : Ending → World → Prop} {E : Nat → Value} {W : World}
theorem lI {r : Tmp} {v : Value} (a : fn.results = #[.tmp r]) (d : E r = v) (h : R (.returned v) W) : yL P fn R .ret E W :=
 ⟨v, fun tmps c => by rw [results_tmp a, c, d], h⟩
theorem qF {r s : Tmp} {v u : Value} (c : fn.results = #[.tmp r, .tmp s]) (d : E r = v) (hu : E s = u) (h : R (.returned (.tuple #[v, u])) W) : yL P fn R .ret E W :=
 ⟨.tuple #[v, u], fun tmps a => by rw [results_tmp2 c, a, a, d, hu], h⟩
theorem vX (a : fn.results = #[]) (h : R (.returned (.tuple #[])) W) : yL P fn R .ret E W :=
 ⟨.tuple #[], fun tmps _ => by rw [results_none a], h⟩
theorem wL {r : Tmp} {t : TypeId} {a : Addr} {v : Value} (c : fn.results = #[.cell r t]) (i : E r = .pointer (some a)) (g : (Instr.loadAt t (.pointer (some a))).run P W = .ok v W) (h : R (.returned v) W) : yL P fn R .ret E W :=
 ⟨v, fun tmps d => by
  have h1 : (loadVar t a).run P W = .ok v W := by simpa [Instr.loadAt, Instr.sureAddr] using g
  simp [results, c, d, i, asAddr, h1], h⟩
theorem wU (h : yL P fn R .ret E W) : yL P fn R .normal E W := h
end
section
variable {Q : oD} {E : Nat → Value} {W : World} {K : (Nat → Value) → World → Prop} {id j : Nat}
theorem lu (h : Q .normal E W) : xW id Q .normal E W := h
theorem me (h : Q .ret E W) : xW id Q .ret E W := h
theorem uf (h : Q .normal E W) : xW id Q (.exit id) E W := by simp [xW]; exact h
theorem Xr (a : (j = id) = False) (h : Q (.exit j) E W) : xW id Q (.exit j) E W := by simp only [xW, a, aP]; exact h
theorem kF (h : K E W) : qG K Q .normal E W := h
theorem lb (h : Q .ret E W) : qG K Q .ret E W := h
theorem nN (h : Q (.exit j) E W) : qG K Q (.exit j) E W := h
end
theorem Sc {i N : Nat} (c : i < N) (a : N ≤ 9223372036854775807) : IntKind.i64.wrap ((i : Int) + 1) = ((i + 1 : Nat) : Int) := by
 rw [IntWalk.i64_in _ (by omega)]
 omega
theorem lp {P : Program} {n : Nat} {Q : oD} {E : Nat → Value} {W : World} {g t Z r6 o q D w : Nat} {t1 t2 t3 t4 t5 t6 t7 : TypeId} {T U Y : String} {f1 f2 f3 : Array Edge} {body : Code} (I : Nat → (Nat → Value) → World → Prop) (N : Nat) (M : N ≤ 9223372036854775807) (G : I 0 E W) (O : o < n) (R : w < n) (A : q < n) (L : ∀ i E W, I i E W → E q = .int .i64 (i : Nat) ∧ E D = .int .i64 (N : Nat)) (round : ∀ i E W, i < N → I i E W → CW P n (.block t body) (qG (fun E' W' => E' q = .int .i64 (i : Nat) ∧ I (i + 1) (nA (nA E' w (.int .i64 ((i + 1 : Nat) : Int))) q (.int .i64 ((i + 1 : Nat) : Int))) W') (xW g Q)) (nA E o (.bool true)) W) (done : ∀ E W, I N E W → Q .normal (nA E o (.bool false)) W) :
  CW P n (.block g (.loop (.seq (.region Z #[⟨some o, .binOp .lss t1 (.tmp q) (.tmp D) t2, t3, T, f1, none⟩] false)
   (.seq (.cond (.tmp o) .skip (.exit g)) (.seq (.block t body)
    (.region r6 #[⟨some w, .binOp .add t4 (.tmp q) (.const (.int .i64 1)) t5, t6, U, f2, none⟩, ⟨some q, .move (.tmp w), t7, Y, f3, none⟩] false)))))) Q E W := by
 refine mK (od (fun m E W => ∃ i, i ≤ N ∧ m = N - i ∧ I i E W) N ⟨0, dV _, by omega, G⟩ ?_)
 rintro m E W ⟨i, hi, rfl, d⟩
 obtain ⟨x, y⟩ := L i E W d
 refine kO (kL (Ko (.inl rfl) rfl O (lL x y rfl) (lh ?_)))
 refine kF (kO ?_)
 have u : nA E o (.bool (decide ((i : Int) < (N : Int)))) o = .bool (decide ((i : Int) < (N : Int))) := by simp [nA]
 by_cases s : i < N
 ·have z : decide ((i : Int) < (N : Int)) = true := by simp; omega
  rw [z] at u ⊢
  refine ze u (lz (kF (kO ?_)))
  refine Kc (round i E W s d) (fun e E' W' h => ?_)
  cases e with
  | normal =>
   obtain ⟨h1, J⟩ := h
   refine kF ?_
   have hw : IntKind.i64.wrap ((i : Int) + 1) = ((i + 1 : Nat) : Int) := Sc s M
   refine kL (Ko (v := .int .i64 ((i + 1 : Nat) : Int)) (.inl rfl) rfl R (lL (k := .i64) (a := (i : Int)) (b := 1) h1 rfl (by simp only [Mq, hw])) ?_)
   refine Ko (v := .int .i64 ((i + 1 : Nat) : Int)) (.inl rfl) rfl A (kH (by simp [kG, nA])) (lh ?_)
   exact kF ⟨N - (i + 1), by omega, i + 1, by omega, rfl, J⟩
  | exit j => exact h
  | goto l => exact h
  | ret => exact h
  | panic c => exact h
  | outgrown => exact h
 ·have z : decide ((i : Int) < (N : Int)) = false := by simp; omega
  rw [z] at u ⊢
  obtain rfl : i = N := by omega
  refine qo u (ob (nN (nN (uf ?_))))
  exact done E W d
theorem Sm {P : Program} {n : Nat} {x : Code} {Q : oD} {K : (Nat → Value) → World → Prop} {E : Nat → Value} {W : World} (J : (Nat → Value) → World → Prop) (h : CW P n x (qG J Q) E W) (k : ∀ E W, J E W → K E W) : CW P n x (qG K Q) E W :=
 Kc h (fun e E W h => by cases e <;> first | exact k E W h | exact h)
theorem WO {α : Type} {c : Bool} {x y r : α} (a : c = true) (h : (if c = true then x else y) = r) : x = r := by rw [aM a] at h; exact h
theorem WS {α : Type} {c : Bool} {x y r : α} (a : c = false) (h : (if c = true then x else y) = r) : y = r := by rw [aK (by rw [a]; decide)] at h; exact h
theorem bind_some {α β : Type} {o : Option α} {f : α → Option β} {r : β} (h : o.bind f = some r) : ∃ y, o = some y ∧ f y = some r := by
 cases o with
 | none => cases h
 | some y => exact ⟨y, rfl, h⟩
theorem Q7 (b : Bool) : b = true ∨ b = false := by cases b <;> simp
theorem lc {α : Type} {l : List α} {i : Nat} (h : i < l.length) : ∃ x xs, l.drop i = x :: xs ∧ l[i]? = some x ∧ l.drop (i + 1) = xs := by
 cases a : l.drop i with
 | nil => have := aV List.length a; simp at this; omega
 | cons x xs => exact ⟨x, xs, rfl, by rw [← List.head?_drop, a]; rfl, by rw [← List.drop_drop, a]; rfl⟩
theorem AW {P : Program} {W : World} (d : Nat) (xs ys : Array Value) : (Op.eqFields d xs ys []).run P W = .ok true W := by simp [Op.eqFields]
theorem oN {P : Program} {W : World} {d : Nat} {xs ys : Array Value} {f : Field} {c : List Field} {a b : Value} {r s : Bool} (i : f.name ≠ "_") (ha : (part f.type xs f.offset).run P W = .ok a W) (g : (part f.type ys f.offset).run P W = .ok b W) (he : (Op.equalIn d f.type a b).run P W = .ok r W) (h : (Op.eqFields d xs ys c).run P W = .ok s W) : (Op.eqFields d xs ys (f :: c)).run P W = .ok (r && s) W := by
 simp only [Op.eqFields, ne_eq, i, not_false_eq_true, bc, cd, ha, g, he, bK]
 cases r <;> simp [h]
theorem tq {P : Program} {W : World} {t : TypeId} {k : Nat} {cs : Array Value} {off : Nat} {v : Array Value} (a : ∀ w, (isAgg t).run P w = .ok true w) (c : ∀ w, (sizeOf t).run P w = .ok k w) (d : cs.extract off (off + k) = v) : (part t cs off).run P W = .ok (.agg v) W := by
 simp [part, a W, c W, d]
theorem qn {P : Program} {W : World} {t : TypeId} {cs : Array Value} {off : Nat} {v : Value} (a : ∀ w, (isAgg t).run P w = .ok false w) (c : cs[off]? = some v) : (part t cs off).run P W = .ok v W := by
 simp [part, a W, c]
def ma (a b : ByteArray) : Bool := a.toList == b.toList
theorem RP {P : Program} {t : TypeId} (c : P.underlying t = some .string) (d : Nat) (a b : ByteArray) (W : World) : (Op.equalIn (d + 1) t (.string a) (.string b)).run P W = .ok (ma a b) W := run_equalIn_string W d t a b c
theorem Za {P : Program} {t : TypeId} {k : IntKind} (c : P.underlying t = some (.int k)) (d : Nat) (a b : Int) (W : World) : (Op.equalIn (d + 1) t (.int k a) (.int k b)).run P W = .ok (a == b) W := run_equalIn_int W d t k k a b c
theorem mY {P : Program} {op : BinOp} {t : TypeId} {x y : Operand} {a b : Array Value} (c : P.eqGuardType P.depth t = false) (W : World) : (eqGuard op t x y (.agg a) (.agg b)).run P W = .ok () W := by
 cases op <;> simp [eqGuard] <;> (intro h; rw [c] at h; cases h)
theorem pK {P : Program} {t : TypeId} {a b : Array Value} {r : Bool} (h : ∀ W, (Op.equalIn Op.maxDepth t (.agg a) (.agg b)).run P W = .ok r W) (W : World) : (binOp .eql t (.agg a) (.agg b)).run P W = .ok (.bool r) W := by
 simp [binOp, Op.equal, h W]
theorem AI {P : Program} {t : TypeId} {a b : Array Value} {r : Bool} (h : ∀ W, (Op.equalIn Op.maxDepth t (.agg a) (.agg b)).run P W = .ok r W) (W : World) : (binOp .neq t (.agg a) (.agg b)).run P W = .ok (.bool !r) W := by
 simp [binOp, Op.equal, h W]
variable {dd : Bool}
def lJ (k : IntKind) (x : Int) : List Value := [.int k x]
def QL (x : Bool) : List Value := [.bool x]
def ni (x : ByteArray) : List Value := [.string x]
theorem I4 (k : IntKind) (x : Int) : ∀ u ∈ lJ k x, u.oneCell' = true := by intro u hu; simp [lJ] at hu; subst hu; rfl
theorem YH (x : Bool) : ∀ u ∈ QL x, u.oneCell' = true := by intro u hu; simp [QL] at hu; subst hu; rfl
theorem DF (x : ByteArray) : ∀ u ∈ ni x, u.oneCell' = true := by intro u hu; simp [ni] at hu; subst hu; rfl
def zS : ByteArray := ⟨#[]⟩
def qp (a b : ByteArray) : Bool := Op.bytesLess a.toList b.toList
@[irreducible] def lC : Nat := 18446744073709551616
theorem pp : lC = 18446744073709551616 := by unfold lC; rfl
def mx {α : Type} (l : List α) (i : Int) : Option α := if 0 ≤ i then l[i.toNat]? else none
theorem lY {α : Type} {l : List α} {i : Int} {x : α} (h : mx l i = some x) : 0 ≤ i := by
 unfold mx at h; split at h
 ·assumption
 ·cases h
theorem lN {α : Type} {l : List α} {i : Int} {x : α} (h : mx l i = some x) : l[i.toNat]? = some x := by
 unfold mx at h; split at h
 ·exact h
 ·cases h
theorem J9 {α : Type} (l : List α) (i : Nat) : mx l (i : Int) = l[i]? := by simp [mx]
def CA (s : ByteArray) (i : Int) : Option UInt8 := if 0 ≤ i then s[i.toNat]? else none
theorem BQ {s : ByteArray} {i : Int} {x : UInt8} (h : CA s i = some x) : 0 ≤ i := by
 unfold CA at h; split at h
 ·assumption
 ·cases h
theorem FX {s : ByteArray} {i : Int} {x : UInt8} (h : CA s i = some x) : s[i.toNat]? = some x := by
 unfold CA at h; split at h
 ·exact h
 ·cases h
section
variable {F : Nat → Prop} {w W : World} {μ : lm} {L L' : List (Nat × Obj)} {α : Type} {e : TypeId} {enc : α → List Value} {k : Nat} {v : Value} {l : List α} {R : List (Nat × Obj)}
theorem ST.at_ (h : ST dd F w W μ L) {b : Nat} {o : Obj} (a : (b, o) ∈ L) : hp W b = some o := (h.box b o a).1
theorem kU.Sd (h : kU e enc k v l R) (hk : ∀ x, (enc x).length = k) (a : ST dd F w W μ L) (c : ∀ p, p ∈ R → p ∈ L) : Sl (Pl enc) k (hp W) v l :=
 h.sl hk (fun _ _ d => a.at_ (c _ d))
theorem kU.form (h : kU e enc k v l R) : ∃ A c, v = .slice A l.length c := by
 rcases h with ⟨rfl, rfl, rfl⟩ | ⟨g, cap, a, rfl, rfl, h1, d, i, j⟩
 ·exact ⟨_, _, rfl⟩
 ·exact ⟨_, _, rfl⟩
theorem Sl.form {R : rA α} (h : Sl R k μ v l) : ∃ A c, v = .slice A l.length c := let ⟨A, c, h, _⟩ := h; ⟨A, c, h⟩
theorem kU.RA (h : kU e enc k v l R) (c : ST dd ll w W μ L) (i : ∀ p, p ∈ R → p ∈ L) : Fr w.heap.size v := by
 rcases h with ⟨rfl, rfl, rfl⟩ | ⟨g, cap, a, rfl, rfl, h1, j, m, n⟩
 ·exact Fr.nil _
 ·intro b d
  simp [Value.ownBlock] at d
  subst d
  rcases (c.box g (.cells a e (0, 0)) (i _ (aO.2 rfl))).2.2 with h | h
  ·exact h
  ·exact h.elim
theorem Sl.lit {b m : Nat} {cs : Array Value} (hk : ∀ x, (enc x).length = k) (hm : l.length = m) (c : m ≤ maxLen) (a : cs.toList = (l.map enc).flatten) (d : μ b = some (.cells cs e (0, 0))) : Sl (Pl enc) k μ (.slice (some ⟨b, 0, none⟩) m m) l :=
 (kU.lit (e := e) (b := b) hm c a (by have := aV List.length a; rw [pJ hk, cU, hm] at this; exact this)).sl hk (fun g o h => by simp at h; obtain ⟨rfl, rfl⟩ := h; exact d)
theorem Fr.box (h : ST dd ll w W μ L) {b m c : Nat} {o : Obj} (d : (b, o) ∈ L) : Fr w.heap.size (.slice (some ⟨b, 0, none⟩) m c) := by
 intro g a
 simp [Value.ownBlock] at a
 subst a
 rcases (h.box b o d).2.2 with h | h
 ·exact h
 ·exact h.elim
theorem ST.perm (h : ST dd F w W μ L) (hp : L.Perm L') : ST dd F w W μ L' :=
 ⟨h.os, h.tape, h.output, h.drawn, h.size, h.na, h.mem, fun b o a => h.box b o (hp.mem_iff.2 a), (hp.map _).nodup_iff.1 h.nd⟩
theorem ST.sublist (h : ST dd F w W μ L) (a : L'.Sublist L) : ST dd F w W μ L' :=
 ⟨h.os, h.tape, h.output, h.drawn, h.size, h.na, h.mem, fun b o c => h.box b o (a.subset c), h.nd.sublist (a.map _)⟩
end
section
variable {E : Nat → Value} {x1 x2 x3 x4 x5 x6 : Operand} {v1 v2 v3 v4 v5 v6 : Value}
theorem pH (h1 : kG E x1 = v1) : #[x1].map (kG E) ++ (#[] : Array Value) = [v1].toArray := by simp [h1]
theorem pI (h1 : kG E x1 = v1) (a : kG E x2 = v2) : #[x1, x2].map (kG E) ++ (#[] : Array Value) = [v1, v2].toArray := by simp [h1, a]
theorem Yb (h1 : kG E x1 = v1) (a : kG E x2 = v2) (c : kG E x3 = v3) : #[x1, x2, x3].map (kG E) ++ (#[] : Array Value) = [v1, v2, v3].toArray := by simp [h1, a, c]
theorem Yc (h1 : kG E x1 = v1) (a : kG E x2 = v2) (c : kG E x3 = v3) (d : kG E x4 = v4) : #[x1, x2, x3, x4].map (kG E) ++ (#[] : Array Value) = [v1, v2, v3, v4].toArray := by simp [h1, a, c, d]
end
theorem KY : ∀ (v : List Value) (i off : Nat) (cells : Array Value), off + i + v.length ≤ cells.size →
  (v.zipIdx i).foldl (fun cs (c, j) => cs.setIfInBounds (off + j) c) cells = (cells.toList.take (off + i) ++ v ++ cells.toList.drop (off + i + v.length)).toArray
 | [], i, off, cells, h => by simp
 | c :: v, i, off, cells, h => by
  simp only [List.zipIdx_cons, List.foldl_cons]
  simp only [aJ] at h
  rw [KY v (i + 1) off _ (by simp; omega)]
  have g : off + i < cells.toList.length := by simp; omega
  congr 1
  rw [Array.toList_setIfInBounds]
  apply dC
  intro j
  have k : (cells.toList.take (off + i)).length = off + i := by simp; omega
  by_cases h1 : j < off + i
  ·simp only [fJ, aH, cy, iN, cU, aJ, dx, eS, dw]
   rw [show min (off + (i + 1)) cells.size = off + (i + 1) by omega, show min (off + i) cells.size = off + i by omega]
   rw [aM (by omega), aM (by omega), aM (by omega), aK (by omega), aM (by omega), aM (by omega), aM (by omega)]
  ·by_cases d : j = off + i
   ·subst d
    simp [fJ, dx, eS, show off + i < off + (i + 1) by omega]
    rw [aM (by omega), aM (by omega), aK (by omega), show off + i - min (off + i) cells.size = 0 by omega]
    rfl
   ·simp only [fJ, aH, cy, iN, cU, aJ, dx, eS, dw]
    rw [show min (off + (i + 1)) cells.size = off + (i + 1) by omega, show min (off + i) cells.size = off + i by omega]
    by_cases a : j < off + (i + 1) + v.length
    ·rw [aM a, aK (by omega), aM (by omega), aK (by omega)]
     rw [show j - (off + i) = (j - (off + (i + 1))) + 1 by omega]
     simp
    ·rw [aK a, aK (by omega), aK (by omega)]
     congr 1
     omega
theorem NW {k : Nat} : ∀ (vs : List Value) (i : Nat) (pre rest : List Value), (∀ v ∈ vs, v.cells.size = k) → pre.length = i * k → rest.length = vs.length * k →
  Instr.fill (fun i => some (i * k, k)) (pre ++ rest).toArray ((vs.zipIdx i).map (fun p => (p.2, p.1))) = some (pre ++ vs.flatMap (fun v => v.cells.toList)).toArray
 | [], i, pre, rest, g, hp, d => by
  have : rest = [] := by cases rest <;> simp at d ⊢
  simp [Instr.fill, this]
 | v :: vs, i, pre, rest, g, hp, d => by
  have a := g v (by simp)
  have h : v.cells.zipIdx.foldl (fun cs (c, j) => cs.setIfInBounds (i * k + j) c) (pre ++ rest).toArray = (pre ++ v.cells.toList ++ rest.drop k).toArray := by
   have := KY v.cells.toList 0 (i * k) (pre ++ rest).toArray (by simp [hp, d, a, cA])
   rw [← Array.toList_zipIdx, Array.foldl_toList] at this
   rw [this]
   congr 1
   simp [← hp, a]
  simp only [List.zipIdx_cons, bD, Instr.fill]
  rw [aK (by simp [a, hp, d, cA]), h]
  have := NW vs (i + 1) (pre ++ v.cells.toList) (rest.drop k) (fun u hu => g u (by simp [hu])) (by simp [hp, a, cA]) (by simp [d, cA])
  rw [this]
  simp
theorem S0 {k m : Nat} {a cs : Array Value} {c : Array (Nat × Value)} (vs : List Value) (g : c.toList = vs.zipIdx.map (fun p => (p.2, p.1))) (j : ∀ v ∈ vs, v.cells.size = k) (hm : vs.length = m) (h : a.size = m * k) (d : (vs.flatMap (fun v => v.cells.toList)).toArray = cs) : Instr.fill (fun i => some (i * k, k)) a c.toList = some cs := by
 subst hm d
 rw [g]
 have := NW vs 0 [] a.toList j (by simp) (by simpa using h)
 simpa using this
theorem zB {P : Program} {t e : TypeId} {m k : Nat} {z : Value} {a : Array (Nat × Value)} {cs : Array Value} (vs : List Value) (i : P.underlying t = some (.slice e)) (h : ∀ w, (sizeOf e).run P w = .ok k w) (n : ∀ w, (zeroValue e).run P w = .ok z w) (hm : m * k ≤ 16777216) (g : a.toList = vs.zipIdx.map (fun p => (p.2, p.1))) (j : ∀ v ∈ vs, v.cells.size = k) (d : vs.length = m) (c : (vs.flatMap (fun v => v.cells.toList)).toArray = cs) (W : World) :
  (Instr.buildSlice t m a).run P W = .ok (.slice (some ⟨W.heap.size, 0, none⟩) m m) (W.alloc (.cells cs e (0, 0))) :=
 J7 i h n hm (S0 vs g j d (by simp) c) W
theorem um {E : Nat → Value}  : (#[] : Array (Nat × Operand)).map (fun (i, x) => (i, kG E x)) = #[] := by simp
theorem mI {E : Nat → Value} {x0 : Operand} {v0 : Value} {i0 : Nat} (a : kG E x0 = v0) : (#[(i0, x0)] : Array (Nat × Operand)).map (fun (i, x) => (i, kG E x)) = #[(i0, v0)] := by simp [a]
theorem pC {E : Nat → Value} {x0 x1 : Operand} {v0 v1 : Value} {i0 i1 : Nat} (a : kG E x0 = v0) (h1 : kG E x1 = v1) : (#[(i0, x0), (i1, x1)] : Array (Nat × Operand)).map (fun (i, x) => (i, kG E x)) = #[(i0, v0), (i1, v1)] := by simp [a, h1]
theorem SJ {E : Nat → Value} {x0 x1 x2 : Operand} {v0 v1 v2 : Value} {i0 i1 i2 : Nat} (a : kG E x0 = v0) (h1 : kG E x1 = v1) (c : kG E x2 = v2) : (#[(i0, x0), (i1, x1), (i2, x2)] : Array (Nat × Operand)).map (fun (i, x) => (i, kG E x)) = #[(i0, v0), (i1, v1), (i2, v2)] := by simp [a, h1, c]
theorem NK {E : Nat → Value} {x0 x1 x2 x3 : Operand} {v0 v1 v2 v3 : Value} {i0 i1 i2 i3 : Nat} (a : kG E x0 = v0) (h1 : kG E x1 = v1) (c : kG E x2 = v2) (d : kG E x3 = v3) : (#[(i0, x0), (i1, x1), (i2, x2), (i3, x3)] : Array (Nat × Operand)).map (fun (i, x) => (i, kG E x)) = #[(i0, v0), (i1, v1), (i2, v2), (i3, v3)] := by simp [a, h1, c, d]
theorem lE {P : Program} {t : TypeId} {f off : Nat} {a : Array Field} {fd : Field} (h : P.underlying t = some (.struct a)) (c : a[f]? = some fd) {k : Nat} (g : ∀ w, (sizeOf fd.type).run P w = .ok k w) (hk : k ≠ 0) (d : fd.offset = off) : mg P t f off := by
 intro b o w
 subst d
 simp [Instr.fieldAt, aQ h, c, Instr.sureAddr, fieldPlace, dm, g w, hk]
theorem Ag.Jh {n : Nat} {a : Act} {E : Nat → Value} (h : Ag n a E) {ops : Array Oper} {j t : Nat} (d : (ops[j]?).bind (·.dst) = some t) (i : t < n) (k : E t = undef) : yielded ops a.tmps j = none := by
 have c := h.2.2 t
 have g : a.tmps[t]? = some (E t) := by
  rw [← c]
  simp [cW, h.1, i]
 simp [yielded, d, g, k, undef]
theorem WU {P : Program} {n : Nat} {Q : oD} {E : Nat → Value} {W : World} {ops : Array Oper} {rest : List Oper} {o : Oper} {d j t : Nat} {want : Bool} (g : o.dst = some d) (m : d < n) (i : o.guard = some (j, want)) (k : (ops[j]?).bind (·.dst) = some t) (q : t < n) (c : E t = undef) (h : LW P n ops Q rest (nA E d undef) W) : LW P n ops Q (o :: rest) E W := fun a ha => by
 unfold wpList
 have s := ha.Jh k q c
 rw [aK (by simp [Region.wanted, i, s])]
 rw [g]
 exact h _ (ha.put m _)
theorem XD {P : Program} {n : Nat} {Q : oD} {E : Nat → Value} {W : World} {ops : Array Oper} {rest : List Oper} {A : Value → Prop} {o : Oper} {dd : Nat} (hw : mA n ops E o) (c : o.dst = some dd) (d : dd < n) (g : ∃ p, A p ∧ ∀ W, mw P E o W p W) (h : ∀ p, A p → LW P n ops Q rest (nA E dd p) W) : LW P n ops Q (o :: rest) E W := by
 obtain ⟨p, h1, a⟩ := g
 exact Ko hw c d (a W) (h p h1)
end Go.Proofs.YtbnbdigcbldfhaaGreat
namespace Go.Proofs.YtbnbdigcbldfhaaGreat
open Go.RowKit
variable {dd : Bool}
theorem vB {P : Program} {n : Nat} {x : Code} {Q : oD} {E : Nat → Value} {W : World} (h : CW P n x (qG (fun E W => Q .normal E W) Q) E W) : CW P n x Q E W :=
 Kc h (fun e E W h => by cases e <;> exact h)
section
variable {P : Program} {n : Nat} {Q : oD} {E : Nat → Value} {W : World} {d : Option Nat} {ty : TypeId} {pos : String} {af : Array Edge} {g : Option (Nat × Bool)}
 {F : Nat → Prop} {w : World} {μ : lm} {L : List (Nat × Obj)}
def UA (k : IntKind) (op : BinOp) (a b : Int) : Option Value :=
 match op with
 | .quo => some (.int k (k.wrap (a.tdiv b)))
 | .rem => some (.int k (a.tmod b))
 | .and => some (.int k (k.wrap (BitVec.ofInt k.bits a &&& BitVec.ofInt k.bits b).toNat))
 | .or => some (.int k (k.wrap (BitVec.ofInt k.bits a ||| BitVec.ofInt k.bits b).toNat))
 | _ => none
theorem FT {op : BinOp} {tx tv : TypeId} {x y : Operand} {k : IntKind} {a b : Int} {v : Value} (i : kG E x = .int k a) (j : kG E y = .int k b) (h : b ≠ 0) (c : UA k op a b = some v) :
  mw P E ⟨d, .binOp op tx x y tv, ty, pos, af, g⟩ W v W := by
 show (do let r ← (do eqGuard op tx x y (kG E x) (kG E y); binOp op tx (kG E x) (kG E y)); pure (.value r) : Sem Next).run P W = _
 rw [i, j]
 cases op <;> simp [UA] at c <;> subst c <;> simp [eqGuard, binOp, Op.intDiv, Op.intBits, h]
theorem Q4 {tx tv : TypeId} {x y : Operand} {k k' : IntKind} {a b : Int} (c : kG E x = .int k a) (h : kG E y = .int k' b) (i : 0 ≤ b) :
  mw P E ⟨d, .binOp .shr tx x y tv, ty, pos, af, g⟩ W (.int k (a.fdiv (2 ^ min b.toNat k.bits))) W := by
 show (do let r ← (do eqGuard .shr tx x y (kG E x) (kG E y); binOp .shr tx (kG E x) (kG E y)); pure (.value r) : Sem Next).run P W = _
 rw [c, h]
 simp [eqGuard, binOp, Op.shift, show ¬ b < 0 by omega]
theorem Cf {s t : TypeId} {x : Operand} {k k' : IntKind} {a : Int} {u : TypeDesc} (c : P.underlying s = some u) (h : P.underlying t = some (.int k)) (i : kG E x = .int k' a) :
  mw P E ⟨d, .convert s t x, ty, pos, af, g⟩ W (.int k (k.wrap a)) W := by
 show (do pure (.value (← convert s t (kG E x))) : Sem Next).run P W = _
 rw [i]
 simp [convert, aQ c, aQ h, Conv.intToInt]
theorem Kf {t e : TypeId} (dd : Nat) (a : P.underlying t = some (.slice e)) (A : Option Addr) (l c : Nat) (W : World) : (Op.equalIn (dd + 1) t (.slice A l c) (.slice none 0 0)).run P W = .ok A.isNone W := by
 cases A <;> simp [Op.equalIn, aQ a]
theorem D8 {tx tv e : TypeId} {x y : Operand} {A : Option Addr} {l c : Nat} (h : P.underlying tx = some (.slice e)) (i : kG E x = .slice A l c) (j : kG E y = .slice none 0 0) :
  mw P E ⟨d, .binOp .eql tx x y tv, ty, pos, af, g⟩ W (.bool A.isNone) W := by
 show (do let r ← (do eqGuard .eql tx x y (kG E x) (kG E y); binOp .eql tx (kG E x) (kG E y)); pure (.value r) : Sem Next).run P W = _
 rw [i, j]
 have a := Kf 9999 h A l c W
 simp [eqGuard, binOp, Op.equal, show Op.maxDepth = 9999 + 1 from rfl, a]
def ve (s : ByteArray) : List Int := s.data.toList.map (fun b => (b.toNat : Int))
def FB (s : ByteArray) : Option (List Int) := if s.size ≤ maxLen then some (ve s) else none
theorem nD (s : ByteArray) : (ve s).length = s.size := by simp only [ve, dy, cU]; rfl
theorem QW {s : ByteArray} {cap i : Nat} {x : Int} (h : (ve s)[i]? = some x) : (bytesRow s cap)[i]? = some (.int .u8 x) := by
 have d : i < s.size := by have := (bA.1 h).1; rwa [nD] at this
 have a : i < s.data.size := d
 simp [ve] at h
 obtain ⟨b, c, rfl⟩ := h
 rw [bytesRow, Array.getElem?_append_left (by simpa using a)]
 simp [c]
theorem Lu {K : Value → World → Prop} {s t e : TypeId} {x : Operand} {str : ByteArray} {l : List Int} (c : ST dd F w W μ L) (q : P.underlying s = some .string) (o : P.underlying t = some (.slice e)) (he : P.underlying e = some (.int .u8)) (m : kG E x = .string str) (a : FB str = some l) (h : ∀ W' v μ', ST dd F w W' μ' L → kY μ μ' → Lo F w μ μ' → Sl (Pl (lJ .u8)) 1 μ' v l → Fr w.heap.size v → K v W') : nH P E ⟨d, .convert s t x, ty, pos, af, g⟩ W K := by
 unfold FB at a
 split at a
 case isFalse => cases a
 rename_i hm
 cases a
 have k := run_bytes_of_string (P := P) W s t e str q o he
 have h1 := c.drew.alloc (.cells (bytesRow str (grownCap W str.size 0 e)) e ((bytesRow str (grownCap W str.size 0 e)).size, (bytesRow str (grownCap W str.size 0 e)).size + 1))
 refine .inl ⟨.slice (some ⟨W.heap.size, 0, none⟩) str.size (grownCap W str.size 0 e), _, ?_, h _ _ _ (ST.Kz (A := []) h1) (ST.Ka (A := []) h1) (ST.Sv (A := []) h1) ?_ ?_⟩
 ·show (do pure (.value (← convert s t (kG E x))) : Sem Next).run P W = _
  rw [m]
  simp only [cd, k, bK, da]
 ·refine ⟨_, grownCap W str.size 0 e, by rw [nD], by rw [nD]; exact grownCap_ge W str.size 0 e, jc W str.size 0 e hm, fun _ => ⟨W.heap.size, 0, bytesRow str (grownCap W str.size 0 e), e, _, rfl, aM rfl, fun i x m => ⟨_, rfl, rfl, fun j y n => ?_⟩⟩⟩
  cases j with
  | zero => simp [lJ] at n; subst n; simpa using QW m
  | succ j => simp [lJ] at n
 ·intro b a
  simp [Value.ownBlock] at a
  subst a
  exact c.size
def Ch (l : List Int) : ByteArray := l.foldl (fun r n => r.push (UInt8.ofNat n.toNat)) ByteArray.empty
theorem Ku {s t e : TypeId} {x : Operand} {v : Value} {l : List Int} (D : P.underlying s = some (.slice e)) (he : P.underlying e = some (.int .u8)) (z : P.underlying t = some .string) (I : kG E x = v) (G : Sl (Pl (lJ .u8)) 1 (hp W) v l) :
  mw P E ⟨d, .convert s t x, ty, pos, af, g⟩ W (.string (Ch l)) W := by
 show (do pure (.value (← convert s t (kG E x))) : Sem Next).run P W = _
 obtain ⟨A, c, rfl, J, L, q⟩ := G
 rw [I]
 simp only [cd, run_convert_bytes_string W s t e A l.length c D he z]
 rcases dG l.length with h | h
 ·have : l = [] := dF.1 h
  subst this
  cases A with
  | none => simp [Conv.bytesToString, Ch]
  | some a =>
   have u := run_bytesToString (P := P) W a 0 c [] (by simpa using jb (P := P) W a [] (by simp))
   simp only [bW]
   rw [u]
   simp [Ch]
 ·obtain ⟨b, off, cs, T, fr, rfl, w, y⟩ := q h
  have o := jb (P := P) W ⟨b, off, none⟩ (l.map (Value.int .u8)) (fun j v n => by
   simp at n
   obtain ⟨x, k, rfl⟩ := n
   obtain ⟨ys, _, m, i⟩ := y j x k
   cases m
   rw [dm, fI W b (off + j) cs T fr w]
   have := i 0 (.int .u8 x) rfl
   simpa using this)
  simp only [dy] at o
  rw [run_bytesToString W _ l.length c l o]
  simp [Ch]
end
end Go.Proofs.YtbnbdigcbldfhaaGreat
namespace Go.Proofs.YtbnbdigcbldfhaaGreat
open Go.RowKit
variable {dd : Bool}
def keys (L : List (Nat × Obj)) : Nat → Prop := fun b => ∃ o, (b, o) ∈ L
structure Y7 (dd : Bool) (F : Nat → Prop) (w W : World) : Prop where
 os : W.os = w.os
 tape : W.tape = w.tape
 output : W.output = w.output
 drawn : uX dd w.drawn W.drawn
 size : w.heap.size ≤ W.heap.size
 na : ∀ b, b < w.heap.size → ¬ F b → W.heap[b]? = w.heap[b]?
def EU (L : List (Nat × Obj)) (W : World) : Prop := ∀ b o, (b, o) ∈ L → W.heap[b]? = some o
structure sG (dd : Bool) (L0 L1 : List (Nat × Obj)) (w w' : World) : Prop where
 ex : Y7 dd (keys L0) w w'
 held : ∀ b o, (b, o) ∈ L1 → w'.heap[b]? = some o ∧ (w.heap.size ≤ b ∨ keys L0 b)
 nd : (L1.map (·.1)).Nodup
open Classical in
noncomputable def sH (w : World) (L : List (Nat × Obj)) : lm := fun b => if keys L b then none else w.heap[b]?
open Classical in
noncomputable def En (μ : lm) (W W' : World) (L1 : List (Nat × Obj)) : lm := fun b => if b < W.heap.size then μ b else if keys L1 b then none else W'.heap[b]?
section
variable {F : Nat → Prop} {w W W' : World} {μ μ' : lm} {L L0 L1 : List (Nat × Obj)}
theorem ST.Xc (a : EU L0 w) (c : (L0.map (·.1)).Nodup) : ST dd (keys L0) w w (sH w L0) L0 :=
 ⟨rfl, rfl, rfl, uX.of (bB _), bB _, fun _ _ _ => rfl, fun b o h => by
  unfold sH at h; split at h
  ·cases h
  ·exact h, fun b o h => ⟨a b o h, by unfold sH; rw [aM ⟨o, h⟩], .inr ⟨o, h⟩⟩, c⟩
theorem ST.WL (h : ST dd (keys L0) w W μ L1) : sG dd L0 L1 w W :=
 ⟨⟨h.os, h.tape, h.output, h.drawn, h.size, h.na⟩, fun b o a => ⟨(h.box b o a).1, (h.box b o a).2.2⟩, h.nd⟩
theorem HO {A B : List (Nat × Obj)} (h : ((A ++ B).map (·.1)).Nodup) {b : Nat} {o : Obj} (a : (b, o) ∈ B) : ¬ keys A b := by
 rintro ⟨d, c⟩
 rw [ct] at h
 exact (bN.1 h).2.2 b (bH.2 ⟨_, c, rfl⟩) b (bH.2 ⟨_, a, rfl⟩) rfl
theorem ST.back (h : ST dd F w W μ (L0 ++ L)) (j : sG dd L0 L1 W W') : ST dd F w W' (En μ W W' L1) (L1 ++ L) := by
 have hk : ∀ b, keys L0 b → b < W.heap.size ∧ μ b = none ∧ (w.heap.size ≤ b ∨ F b) := fun b ⟨o, d⟩ => by
  obtain ⟨h1, g, n⟩ := h.box b o (bI _ d)
  exact ⟨oM h1, g, n⟩
 refine ⟨j.ex.os.trans h.os, j.ex.tape.trans h.tape, j.ex.output.trans h.output, uX.trans h.drawn j.ex.drawn, dj h.size j.ex.size, fun b i q => ?_, fun b o d => ?_, fun b o d => ?_, ?_⟩
 ·rw [j.ex.na b (cO i h.size) (fun k => by
   rcases (hk b k).2.2 with h | h
   ·omega
   ·exact q h)]
  exact h.na b i q
 ·unfold En at d
  split at d
  ·rename_i i
   rw [j.ex.na b i (fun k => by rw [(hk b k).2.1] at d; cases d)]
   exact h.mem b o d
  ·split at d
   ·cases d
   ·exact d
 ·rcases aS.1 d with d | d
  ·obtain ⟨h1, g⟩ := j.held b o d
   refine ⟨h1, ?_, ?_⟩
   ·unfold En
    split
    ·rename_i i
     rcases g with g | g
     ·omega
     ·exact (hk b g).2.1
    ·rw [aM ⟨o, d⟩]
   ·rcases g with g | g
    ·exact .inl (dj h.size g)
    ·exact (hk b g).2.2
  ·obtain ⟨h1, g, n⟩ := h.box b o (cD _ d)
   refine ⟨?_, ?_, n⟩
   ·rw [j.ex.na b (oM h1) (HO h.nd d)]; exact h1
   ·unfold En; rw [aM (oM h1)]; exact g
 ·rw [ct]
  have t : (L.map (·.1)).Nodup := by have := h.nd; rw [ct] at this; exact (bN.1 this).2.1
  refine bN.2 ⟨j.nd, t, fun a ha c u e => ?_⟩
  subst e
  obtain ⟨⟨b, o⟩, d, rfl⟩ := bH.1 ha
  obtain ⟨⟨s, v⟩, m, e⟩ := bH.1 u
  simp at e; subst e
  have i := h.GN (cD _ m)
  rcases (j.held s o d).2 with g | g
  ·omega
  ·exact HO h.nd m g
theorem ST.N3 (h : ST dd F w W μ L) (W' : World) (L1 : List (Nat × Obj)) : Lo F w μ (En μ W W' L1) := fun b a _ => aM (cO a h.size)
theorem ST.KU (h : ST dd F w W μ L) (W' : World) (L1 : List (Nat × Obj)) : kY μ (En μ W W' L1) := fun b o a => by
 unfold En; rw [aM (h.FK a)]; exact a
theorem ST.lV (h : ST dd F w W μ L) (c : ∀ p, p ∈ L0 → p ∈ L) : kY μ (sH W L0) := fun b o a => by
 unfold sH
 rw [aK]
 ·exact h.mem b o a
 ·rintro ⟨g, d⟩
  rw [(h.box b g (c _ d)).2.1] at a
  cases a
theorem sG.Mu (h : Ex dd w W) (c : ∀ b o, (b, o) ∈ L1 → W.heap[b]? = some o ∧ w.heap.size ≤ b) (d : (L1.map (·.1)).Nodup) : sG dd [] L1 w W :=
 ⟨⟨h.os, h.tape, h.output, h.drawn, h.size, fun b a _ => h.na b a⟩, fun b o a => ⟨(c b o a).1, .inl (c b o a).2⟩, d⟩
end
def mh (dd : Bool) (P : Program) (f : FuncId) (args : List Value) (w : World) (L0 : List (Nat × Obj)) (K : Value → List (Nat × Obj) → World → Prop) : Prop :=
 Calls P f args.toArray w fun e a => ∃ v L1, e = .returned v ∧ sG dd L0 L1 w a ∧ K v L1 a
def lK (dd : Bool) {α : Type} (P : Program) (f : FuncId) (args : List Value) (w : World) (e : TypeId) (enc : α → List Value) (k : Nat) (l : List α) : Prop :=
 mh dd P f args w [] fun v R _ => kU e enc k v l R
theorem sG.mn {L0 L1 : List (Nat × Obj)} {w a : World} (h : sG true L0 L1 w a) : sG dd L0 L1 w a := ⟨⟨h.ex.os, h.ex.tape, h.ex.output, uX.of (h.ex.drawn rfl), h.ex.size, h.ex.na⟩, h.held, h.nd⟩
theorem la.mn {P : Program} {f : FuncId} {args : List Value} {w : World} {v : Value} (h : la true P f args w v) : la dd P f args w v := cH h fun _ _ h => ⟨h.1, h.2.mn⟩
theorem mh.mn {P : Program} {f : FuncId} {args : List Value} {w : World} {L0 : List (Nat × Obj)} {K : Value → List (Nat × Obj) → World → Prop} (h : mh true P f args w L0 K) : mh dd P f args w L0 K := cH h fun _ _ ⟨v, L1, h1, a, c⟩ => ⟨v, L1, h1, a.mn, c⟩
theorem lK.mn {α : Type} {P : Program} {f : FuncId} {args : List Value} {w : World} {e : TypeId} {enc : α → List Value} {k : Nat} {l : List α} (h : lK true P f args w e enc k l) : lK dd P f args w e enc k l := mh.mn h
section
variable {P : Program} {E : Nat → Value} {W : World} {d : Option Nat} {ty : TypeId} {pos : String} {af : Array Edge} {g : Option (Nat × Bool)}
 {F : Nat → Prop} {w : World} {μ : lm} {L : List (Nat × Obj)}
theorem TA {K : Value → World → Prop} {K' : Value → List (Nat × Obj) → World → Prop} {f : FuncId} {fv : Operand} {ax : Array Operand} {ats : Array TypeId} {caps : Array Value} {args : List Value} (L0 L2 : List (Nat × Obj)) (a : ST dd F w W μ L) (c : L.Perm (L0 ++ L2)) (m : kG E fv = .func (.func f) #[] caps) (he : ∀ args w, (callFunc f args).run P w = .ok (.enter f args) w) (ha : ax.map (kG E) ++ caps = args.toArray) (k : mh dd P f args W L0 K') (h : ∀ W' v μ' L1, ST dd F w W' μ' (L1 ++ L2) → kY μ μ' → Lo F w μ μ' → K' v L1 W' → K v W') : nH P E ⟨d, .call ⟨.value fv, ax, ats⟩, ty, pos, af, g⟩ W K :=
 HM m he ha (cH k (fun _ W' ⟨v, L1, h1, i, j⟩ => ⟨v, h1, h W' v _ L1 ((a.perm c).back i) ((a.perm c).KU W' L1) ((a.perm c).N3 W' L1) j⟩))
theorem Qk {K : Value → World → Prop} {α : Type} {e : TypeId} {enc : α → List Value} {k : Nat} {l : List α} {f : FuncId} {fv : Operand} {ax : Array Operand} {ats : Array TypeId} {caps : Array Value} {args : List Value} (X Y : List (Nat × Obj)) (a : ST dd F w W μ (X ++ Y)) (n : kG E fv = .func (.func f) #[] caps) (he : ∀ args w, (callFunc f args).run P w = .ok (.enter f args) w) (ha : ax.map (kG E) ++ caps = args.toArray) (m : lK dd P f args W e enc k l) (h : ∀ W' v μ' R, ST dd F w W' μ' (X ++ (R ++ Y)) → kY μ μ' → Lo F w μ μ' → kU e enc k v l R → K v W') : nH P E ⟨d, .call ⟨.value fv, ax, ats⟩, ty, pos, af, g⟩ W K :=
 TA [] (X ++ Y) a (.refl _) n he ha m (fun W' v μ' L1 h1 c j i => h W' v μ' L1 (h1.perm (by rw [← aT, ← aT]; exact List.perm_append_comm.append_right Y)) c j i)
end
theorem ST.mO {w W : World} {μ : lm} {L R : List (Nat × Obj)} (h : ST dd ll w W μ L) (a : ∀ p, p ∈ R → p ∈ L) (d : (R.map (·.1)).Nodup) : sG dd [] R w W :=
 sG.Mu h.ex (fun b o c => ⟨(h.box b o (a _ c)).1, by
  rcases (h.box b o (a _ c)).2.2 with h | h
  ·exact h
  ·exact h.elim⟩) d
theorem mP {P : Program} {E : Nat → Value} {W : World} {d : Option Nat} {ty : TypeId} {pos : String} {af : Array Edge} {g : Option (Nat × Bool)} {α : Type} {e' : TypeId} {enc : α → List Value} {k : Nat} {v : Value} {l : List α} {R : List (Nat × Obj)} {x : Operand} {t e : TypeId} (a : P.underlying t = some (.slice e)) (i : kG E x = v) (h : kU e' enc k v l R) : mw P E ⟨d, .call ⟨.builtin .len, #[x], #[t]⟩, ty, pos, af, g⟩ W (.int .i64 l.length) W := by
 obtain ⟨A, c, rfl⟩ := h.form
 exact BG a i
section
variable {α : Type} {e : TypeId} {enc : α → List Value} {k : Nat} {v : Value} {l : List α} {R : List (Nat × Obj)}
theorem kU.nd (h : kU e enc k v l R) : (R.map (·.1)).Nodup := by
 rcases h with ⟨rfl, rfl, rfl⟩ | ⟨g, cap, a, rfl, rfl, _⟩ <;> simp
end
end Go.Proofs.YtbnbdigcbldfhaaGreat
namespace Go.Proofs.YtbnbdigcbldfhaaGreat
open Go.RowKit
variable {dd : Bool}
def E2 (R : List (Nat × Obj)) (k : Nat) (p : Value) (i : Nat) : Prop := ∃ g o, R = [(g, o)] ∧ p = .pointer (some ⟨g, i * k, none⟩)
section
variable {P : Program} {E : Nat → Value} {W : World} {d : Option Nat} {ty : TypeId} {pos : String} {af : Array Edge} {g : Option (Nat × Bool)}
 {F : Nat → Prop} {w : World} {μ : lm} {L : List (Nat × Obj)} {α : Type} {e' : TypeId} {enc : α → List Value} {k : Nat} {v : Value} {l : List α} {R : List (Nat × Obj)}
theorem mC {t e : TypeId} {x c : Operand} {z : IntKind} {i : Int} {x0 : α} (u : P.underlying t = some (.slice e)) (he : ∀ w, (sizeOf e).run P w = .ok k w) (y : kG E x = v) (q : kG E c = .int z i) (h : kU e' enc k v l R) (n : 0 ≤ i) (s : l[i.toNat]? = some x0) :
  ∃ p, E2 R k p i.toNat ∧ ∀ W, mw P E ⟨d, .indexAddr t x c, ty, pos, af, g⟩ W p W := by
 have a : i.toNat < l.length := (bA.1 s).1
 rcases h with ⟨rfl, rfl, rfl⟩ | ⟨m, cap, j, rfl, rfl, h1, A, D, G⟩
 ·simp at a
 refine ⟨.pointer (some ⟨m, i.toNat * k, none⟩), ⟨_, _, rfl, rfl⟩, fun W => ?_⟩
 show (do pure (.value (← Instr.indexAt t (kG E x) (kG E c))) : Sem Next).run P W = _
 rw [y, q]
 have o : 0 ≤ i ∧ i < (l.length : Int) := ⟨n, by omega⟩
 simp [Instr.indexAt, asIntOf, aQ u, he W, o, dm]
theorem Dk (h : kU e' enc k v l R) (hk : ∀ x, (enc x).length = k) {p : Value} {i : Nat} (hp : E2 R k p i) {x0 : α} (n : l[i]? = some x0) :
  ∃ g a cap, R = [(g, .cells a e' (0, 0))] ∧ v = .slice (some ⟨g, 0, none⟩) l.length cap ∧ l.length ≤ cap ∧ cap ≤ maxLen ∧ a.size = cap * k ∧ a.toList.take (l.length * k) = (l.map enc).flatten ∧ p = .pointer (some ⟨g, i * k, none⟩) ∧ ∀ j y, (enc x0)[j]? = some y → a[i * k + j]? = some y := by
 have d : i < l.length := (bA.1 n).1
 rcases h with ⟨rfl, rfl, rfl⟩ | ⟨s, cap, a, rfl, rfl, h1, t, u, m⟩
 ·simp at d
 obtain ⟨g2, o, q, rfl⟩ := hp
 cases q
 refine ⟨s, a, cap, rfl, rfl, h1, t, u, m, rfl, fun j y w => ?_⟩
 have := yU hk l i x0 n j y w
 rw [← m] at this
 have c : i * k + j < l.length * k := by
  have := (bA.1 this).1
  simp at this; omega
 rw [dA c] at this
 simpa using this
theorem ot {A : List (Nat × Obj)} (hH : rR μ A W) (d : ∀ q, q ∈ R → q ∈ A) (h : kU e' enc k v l R) (hk : ∀ x, (enc x).length = k) {p : Value} {i : Nat} (hp : E2 R k p i) {x0 : α} (m : l[i]? = some x0) {t : TypeId} (g : ∀ w, (isAgg t).run P w = .ok true w) (j : ∀ w, (sizeOf t).run P w = .ok k w) : (Instr.loadAt t p).run P W = .ok (.agg (enc x0).toArray) W := by
 obtain ⟨n, a, cap, rfl, rfl, _, _, _, _, rfl, c⟩ := Dk h hk hp m
 exact EX g (enc x0) (by rw [hk]; exact j) (hH.2 _ _ (d _ (aO.2 rfl))) c
theorem uR {A : List (Nat × Obj)} (hH : rR μ A W) (d : ∀ q, q ∈ R → q ∈ A) (h : kU e' enc k v l R) (hk : ∀ x, (enc x).length = k) {p : Value} {i : Nat} (hp : E2 R k p i) {x0 : α} (j : l[i]? = some x0) {t : TypeId} {y : Value} (m : enc x0 = [y]) (g : ∀ w, (isAgg t).run P w = .ok false w) : (Instr.loadAt t p).run P W = .ok y W := by
 obtain ⟨n, a, cap, rfl, rfl, _, _, _, _, rfl, c⟩ := Dk h hk hp j
 exact EN g (hH.2 _ _ (d _ (aO.2 rfl))) (c 0 y (by rw [m]; rfl))
theorem Iy (hk : ∀ x, (enc x).length = k) : ∀ (l : List α) (i : Nat) (y : α), i < l.length → ((l.set i y).map enc).flatten = (l.map enc).flatten.take (i * k) ++ enc y ++ (l.map enc).flatten.drop (i * k + k)
 | [], i, y, h => by simp at h
 | z :: l, 0, y, h => by
  simp [hk]
 | z :: l, i + 1, y, h => by
  have := Iy hk l i y (by simpa using h)
  simp only [List.set_cons_succ, bD, dt, this]
  have h1 : (i + 1) * k = (enc z).length + i * k := by rw [hk, cA]; omega
  rw [h1, iT, eX, List.drop_length_add_append]
  simp
theorem Qs {K : Value → World → Prop} (X : List (Nat × Obj)) {Y : List (Nat × Obj)} {t : TypeId} {x y : Operand} {p u : Value} {i : Nat} {x0 x1 : α} (j : ST dd F w W μ (X ++ (R ++ Y))) (h : kU e' enc k v l R) (hk : ∀ x, (enc x).length = k) (h1 : ∀ x, ∀ u ∈ enc x, u.oneCell' = true) (T : kG E x = p) (U : kG E y = u) (hu : u.cells = (enc x1).toArray) (hp : E2 R k p i) (D : l[i]? = some x0) (O : ∀ w, (sizeOf t).run P w = .ok k w) (M : ∀ W' R', ST dd F w W' μ (X ++ (R' ++ Y)) → kU e' enc k v (l.set i x1) R' → K undef W') : nH P E ⟨d, .store t x y, ty, pos, af, g⟩ W K := by
 have s : i < l.length := (bA.1 D).1
 obtain ⟨n, a, cap, rfl, rfl, A, J, q, L, rfl, Z⟩ := Dk h hk hp D
 have hle : i * k + k ≤ cap * k := by
  have : (i + 1) * k ≤ cap * k := cn _ (by omega)
  rwa [cA, kk] at this
 have m : i * k + k ≤ l.length * k := by
  have : (i + 1) * k ≤ l.length * k := cn _ (by omega)
  rwa [cA, kk] at this
 have c : u.cells.size = k := by rw [hu]; simp [hk]
 have Q := (j.box n (.cells a e' (0, 0)) (by simp)).1
 have hlen : l.length * k ≤ cap * k := cn _ A
 refine .inr (.inl ⟨W.setRow n (a.toList.take (i * k) ++ (enc x1) ++ a.toList.drop (i * k + k)).toArray, ?_, M _ [(n, .cells (a.toList.take (i * k) ++ (enc x1) ++ a.toList.drop (i * k + k)).toArray e' (0, 0))] (j.store _) (.inr ⟨n, cap, _, by simp, rfl, by simpa using A, J, ?_, ?_⟩)⟩)
 ·show (do Instr.storeAt t (kG E x) (kG E y); pure .skip : Sem Next).run P W = _
  rw [T, U]
  have := E4 P (off := i * k) u (by rw [c]; exact O) (by rw [hu]; simpa using h1 x1) Q (by rw [c, q]; exact hle)
  simp only [cd, this, bK, da, c]
  rw [hu]
 ·show ((a.toList.take (i * k) ++ (enc x1) ++ a.toList.drop (i * k + k)).toArray).size = _
  have o : a.toList.length = cap * k := by simpa using q
  rw [cM, aH, aH, cy, dn, hk, o, cP (by omega)]; omega
 ·rw [iN, Iy hk l i x1 s, ← L]
  have G : (a.toList.take (l.length * k)).take (i * k) = a.toList.take (i * k) := by rw [eJ]; congr 1; omega
  have I : (a.toList.take (l.length * k)).drop (i * k + k) = (a.toList.drop (i * k + k)).take (l.length * k - (i * k + k)) := by rw [gD]
  rw [G, I]
  show List.take (l.length * k) (a.toList.take (i * k) ++ enc x1 ++ a.toList.drop (i * k + k)) = _
  have o : a.toList.length = cap * k := by simpa using q
  have z : (a.toList.take (i * k) ++ enc x1).length = i * k + k := by rw [aH, cy, hk, o, cP (by omega)]
  rw [eF, cX (by rw [z]; exact m), z]
theorem Ei (hk : ∀ x, (enc x).length = k) : ∀ (l : List α) (i : Nat), i ≤ l.length → ((l.take i).map enc).flatten = (l.map enc).flatten.take (i * k)
 | [], i, h => by simp
 | z :: l, 0, h => by simp
 | z :: l, i + 1, h => by
  have := Ei hk l i (by simpa using h)
  simp only [List.take_succ_cons, bD, dt, this]
  rw [show (i + 1) * k = (enc z).length + i * k by rw [hk, cA]; omega, iT]
theorem ui {t e : TypeId} {x ih : Operand} {I : IntKind} {i : Int} (n : P.underlying t = some (.slice e)) (he : ∀ w, (sizeOf e).run P w = .ok k w) (o : kG E x = v) (m : kG E ih = .int I i) (h : kU e' enc k v l R) (hk : ∀ x, (enc x).length = k) (u : 0 ≤ i) (G : i ≤ l.length) :
  ∃ q, kU e' enc k q (l.take i.toNat) R ∧ ∀ W, mw P E ⟨d, .slice t x none (some ih) none, ty, pos, af, g⟩ W q W := by
 have a : i.toNat ≤ l.length := by omega
 rcases h with ⟨rfl, rfl, rfl⟩ | ⟨j, cap, c, rfl, rfl, h1, y, z, A⟩
 ·have : i = 0 := by simp at G; omega
  subst this
  refine ⟨.slice none 0 0, .inl ⟨rfl, by simp, rfl⟩, fun W => ?_⟩
  show (do pure (.value (← Instr.sliceAt t (kG E x) none (some (kG E ih)) none)) : Sem Next).run P W = _
  rw [o, m]
  simp [Instr.sliceAt, Instr.slice, Instr.sliceBounds, Instr.sliceBound, asIntOf, aQ n, he W]
 ·refine ⟨.slice (some ⟨j, 0, none⟩) (l.take i.toNat).length cap, .inr ⟨j, cap, c, rfl, rfl, by simp; omega, y, z, ?_⟩, fun W => ?_⟩
  ·have s : (l.take i.toNat).length = i.toNat := by rw [cy]; omega
   have hle : i.toNat * k ≤ l.length * k := cn _ a
   rw [s, Ei hk l i.toNat a, ← A, eJ, cP hle]
  ·show (do pure (.value (← Instr.sliceAt t (kG E x) none (some (kG E ih)) none)) : Sem Next).run P W = _
   rw [o, m]
   have D : 0 ≤ i ∧ i ≤ (cap : Int) := ⟨u, by omega⟩
   simp [Instr.sliceAt, Instr.slice, Instr.sliceBounds, Instr.sliceBound, asIntOf, aQ n, he W, D, dm]
   omega
theorem BP {z : rA α} {t e : TypeId} {x s : Operand} {ik : IntKind} {i : Int} (Z : P.underlying t = some (.slice e)) (he : ∀ w, (sizeOf e).run P w = .ok k w) (n : kG E x = v) (Q : kG E s = .int ik i) (h : Sl z k μ v l) (D : 0 ≤ i) (R : i ≤ l.length) :
  ∃ u, (Sl z k μ u (l.drop i.toNat) ∧ ∀ B, Fr B v → Fr B u) ∧ ∀ W, mw P E ⟨d, .slice t x (some s) none none, ty, pos, af, g⟩ W u W := by
 obtain ⟨A, c, rfl, h2, h3, G⟩ := h
 have U : i.toNat ≤ l.length := by omega
 refine ⟨.slice (if c = i.toNat then A else A.map (·.add (i.toNat * k))) (l.drop i.toNat).length (c - i.toNat), ⟨⟨_, _, rfl, by simp; omega, by omega, fun hp => ?_⟩, fun B O b m => ?_⟩, fun W => ?_⟩
 ·have Y : i.toNat < l.length := by simp at hp; omega
  obtain ⟨b, off, cs, T, fr, rfl, I, J⟩ := G (by omega)
  refine ⟨b, off + i.toNat * k, cs, T, fr, ?_, I, fun j x n => ?_⟩
  ·rw [aK (by omega)]; simp [dm]
  ·rw [dw] at n
   obtain ⟨ys, L, M, o⟩ := J _ x n
   refine ⟨ys, L, M, fun q y hy => ?_⟩
   have := o q y hy
   rw [cA] at this
   rw [show off + i.toNat * k + j * k + q = off + (i.toNat * k + j * k) + q by omega]
   exact this
 ·refine O b ?_
  cases A with
  | none => simp [Value.ownBlock] at m
  | some a =>
   split at m
   ·exact m
   ·obtain ⟨b', o', s'⟩ := a
    cases s' <;> simp [Value.ownBlock, Addr.add] at m ⊢ <;> split at m <;> exact m
 ·show (do pure (.value (← Instr.sliceAt t (kG E x) (some (kG E s)) none none)) : Sem Next).run P W = _
  rw [n, Q]
  have m : 0 ≤ i ∧ i ≤ (l.length : Int) := ⟨D, R⟩
  simp [Instr.sliceAt, Instr.slice, Instr.sliceBounds, Instr.sliceBound, asIntOf, aQ Z, he W, m]
end
end Go.Proofs.YtbnbdigcbldfhaaGreat
namespace Go.Proofs.YtbnbdigcbldfhaaGreat
open Go.RowKit
variable {dd : Bool}
section
variable {α : Type} {e : TypeId} {enc : α → List Value} {k : Nat} {v : Value} {l : List α} {R : List (Nat × Obj)} {μ : lm}
theorem kU.one (h : kU e enc k v l R) : v.oneCell' = true := by obtain ⟨A, c, rfl⟩ := h.form; rfl
theorem Sl.one {a : rA α} (h : Sl a k μ v l) : v.oneCell' = true := by obtain ⟨A, c, rfl⟩ := h.form; rfl
theorem Sl.isNil {d : rA α} {n c : Nat} (h : Sl d k μ (.slice none n c) l) : l = [] := by
 obtain ⟨A, j, h1, m, o, g⟩ := h
 cases h1
 rcases dG l.length with a | a
 ·exact dF.1 a
 ·obtain ⟨b, off, cs, T, fr, i, _⟩ := g a
  cases i
theorem kU.isNil {n c : Nat} (h : kU e enc k (.slice none n c) l R) : l = [] := by
 rcases h with ⟨h1, rfl, rfl⟩ | ⟨g, cap, a, h1, _⟩
 ·rfl
 ·cases h1
theorem ST.X1 {w W : World} {μ : lm} {L1 L2 : List (Nat × Obj)} (h : ST dd ll w W μ (L1 ++ L2)) : sG dd [] L1 w W :=
 sG.Mu h.ex (fun b o a => ⟨(h.box b o (bI _ a)).1, by
  rcases (h.box b o (bI _ a)).2.2 with h | h
  ·exact h
  ·exact h.elim⟩) (by have := h.nd; rw [ct] at this; exact (bN.1 this).1)
theorem ST.X8 {w W : World} {μ : lm} {L0 L1 L2 : List (Nat × Obj)} (h : ST dd (keys L0) w W μ (L1 ++ L2)) : sG dd L0 L1 w W :=
 ⟨⟨h.os, h.tape, h.output, h.drawn, h.size, h.na⟩, fun b o a => ⟨(h.box b o (bI _ a)).1, (h.box b o (bI _ a)).2.2⟩, by have := h.nd; rw [ct] at this; exact (bN.1 this).1⟩
end
end Go.Proofs.YtbnbdigcbldfhaaGreat
namespace Go.Proofs.YtbnbdigcbldfhaaGreat
open Go.RowKit
variable {dd : Bool}
def mi {κ β : Type} (beq : κ → κ → Bool) (l : List (κ × β)) (k : κ) : Option β := (l.find? (fun p => beq k p.1)).map (·.2)
def oh {κ β : Type} (beq : κ → κ → Bool) (l : List (κ × β)) (k : κ) (v : β) : List (κ × β) :=
 match l.findIdx? (fun p => beq k p.1) with
 | some i => l.set i (k, v)
 | none => l ++ [(k, v)]
structure xj {κ β : Type} (kenc : κ → Value) (vf : β → Value) (l : List (κ × β)) (es : Array MapEntry) (clock : Nat) : Prop where
 HZ : es.toList.map (fun e => (e.key, e.val)) = l.map (fun p => (kenc p.1, vf p.2))
 born : es.toList.Pairwise (fun a b => a.born < b.born)
 lt : ∀ e ∈ es.toList, e.born < clock
def mu {κ β : Type} (kenc : κ → Value) (vf : β → Value) (v : Value) (l : List (κ × β)) (R : List (Nat × Obj)) : Prop :=
 ∃ m es clock, v = .map (some m) ∧ R = [(m, .map es clock)] ∧ xj kenc vf l es clock
def xk {κ β : Type} (kenc : κ → Value) (vf : β → Value) (μ : lm) (v : Value) (l : List (κ × β)) : Prop :=
 (v = .map none ∧ l = []) ∨ ∃ m es clock, v = .map (some m) ∧ μ m = some (.map es clock) ∧ xj kenc vf l es clock
theorem xk.mono {κ β : Type} {kenc : κ → Value} {vf : β → Value} {μ μ' : lm} {v : Value} {l : List (κ × β)} (h : xk kenc vf μ v l) (d : kY μ μ') : xk kenc vf μ' v l := by
 rcases h with h | ⟨m, es, clock, h1, a, c⟩
 ·exact .inl h
 ·exact .inr ⟨m, es, clock, h1, d _ _ a, c⟩
theorem mu.at {κ β : Type} {kenc : κ → Value} {vf : β → Value} {μ : lm} {v : Value} {l : List (κ × β)} {R : List (Nat × Obj)} (h : mu kenc vf v l R) (c : ∀ b o, (b, o) ∈ R → μ b = some o) : xk kenc vf μ v l := by
 obtain ⟨m, es, clock, rfl, rfl, a⟩ := h
 exact .inr ⟨m, es, clock, rfl, c _ _ (aO.2 rfl), a⟩
structure px {κ : Type} (P : Program) (kt : TypeId) (kenc : κ → Value) (beq : κ → κ → Bool) : Prop where
 check : ∀ b k W, (Instr.checkKey b 10000 kt (kenc k)).run P W = .ok () W
 find : ∀ (k : κ) (l : List κ) (es : List MapEntry), es.map (·.key) = l.map kenc → ∀ W, (Instr.findKey kt (kenc k) es).run P W = .ok ((l.findIdx? (fun x => beq k x)).bind fun i => (es[i]?).map fun e => (i, e.val)) W
 eq : ∀ k x, beq k x = true → kenc x = kenc k
 bits : ∀ k, Instr.sameBits 10000 (kenc k) (kenc k) = true
section
variable {P : Program} {W : World} {κ : Type} {kt : TypeId} {kenc : κ → Value} {beq : κ → κ → Bool}
theorem Fj (a : ∀ x y W, (Op.equal kt (kenc x) (kenc y)).run P W = .ok (beq x y) W) (k : κ) : ∀ (l : List κ) (es : List MapEntry) (i : Nat), es.map (·.key) = l.map kenc →
  (Instr.findAsking kt (kenc k) es i).run P W = .ok ((l.findIdx? (fun x => beq k x)).bind fun j => (es[j]?).map fun e => (i + j, e.val)) W
 | [], [], i, h => by simp [Instr.findAsking]
 | [], _ :: _, i, h => by simp at h
 | _ :: _, [], i, h => by simp at h
 | x :: l, e :: es, i, h => by
  simp only [bD, bL] at h
  obtain ⟨h1, c⟩ := h
  simp only [Instr.findAsking, cd, h1, a, bK, eK]
  cases d : beq k x with
  | true => simp
  | false =>
   simp only [aB, aP]
   rw [Fj a k l es (i + 1) c]
   cases l.findIdx? (fun x => beq k x) with
   | none => rfl
   | some j => simp [eX, jU 1 j]
theorem OD {kind : TypeDesc} (hk : ∀ a b, Instr.sameNow kind (.agg a) b = none) (a : Array Value) : ∀ (es : List MapEntry) (i : Nat), Instr.findNow kind (.agg a) es i = if es = [] then some none else none
 | [], i => by simp [Instr.findNow]
 | e :: es, i => by simp [Instr.findNow, hk]
theorem px.struct {enc : κ → List Value} {i : Array Field} (o : P.underlying kt = some (.struct i)) (n : ∀ d x y W, (Op.equalIn (d + 10) kt (.agg (enc x).toArray) (.agg (enc y).toArray)).run P W = .ok (beq x y) W) (m : ∀ b k W, (Instr.checkKey b 10000 kt (.agg (enc k).toArray)).run P W = .ok () W) (he : ∀ k x, beq k x = true → x = k) (j : ∀ k, Instr.sameBits 10000 (.agg (enc k).toArray) (.agg (enc k).toArray) = true) : px P kt (fun x => .agg (enc x).toArray) beq where
 check := m
 find := fun k l es h W => by
  have c : ∀ x y W, (Op.equal kt (.agg (enc x).toArray) (.agg (enc y).toArray)).run P W = .ok (beq x y) W := fun x y W => n 9990 x y W
  simp only [Instr.findKey, cd, aQ o, bK]
  rw [OD (fun a b => by cases b <;> rfl)]
  by_cases g : es = []
  ·subst g
   have : l = [] := by simpa using h.symm
   subst this
   simp
  ·rw [aK g]
   dsimp only
   rw [show Instr.findAsking kt (.agg (enc k).toArray) es = Instr.findAsking kt (.agg (enc k).toArray) es 0 from rfl, Fj c k l es 0 h]
   simp
 eq := fun k x h => by rw [he k x h]
 bits := j
theorem mM {a b : ByteArray} : ma a b = true ↔ a = b := by
 unfold ma
 rw [eZ, eZ]
 constructor
 ·intro h
  have h1 : a.data.toList = b.data.toList := by simpa using h
  exact jG (Array.toList_inj.1 h1)
 ·rintro rfl
  simp
theorem D5 (a b : ByteArray) : (a == b) = ma a b := by
 rw [bF, mM]
 constructor
 ·intro h
  have h1 : (a.data == b.data) = true := h
  exact jG (by simpa using h1)
 ·rintro rfl
  show (a.data == a.data) = true
  simp
theorem Fl (k : ByteArray) : ∀ (l : List ByteArray) (es : List MapEntry) (i : Nat), es.map (·.key) = l.map Value.string →
  Instr.findNow .string (.string k) es i = some ((l.findIdx? (fun x => ma k x)).bind fun j => (es[j]?).map fun e => (i + j, e.val))
 | [], [], i, h => by simp [Instr.findNow]
 | [], _ :: _, i, h => by simp at h
 | _ :: _, [], i, h => by simp at h
 | x :: l, e :: es, i, h => by
  simp only [bD, bL] at h
  obtain ⟨h1, a⟩ := h
  simp only [Instr.findNow, h1, Instr.sameNow, D5, eK]
  cases c : ma k x with
  | true => simp
  | false =>
   simp only [aB, aP]
   rw [Fl k l es (i + 1) a]
   cases l.findIdx? (fun x => ma k x) with
   | none => rfl
   | some j => simp [eX, jU 1 j]
theorem uB (a : P.underlying kt = some .string) (n : Nat) (b : Bool) (k : ByteArray) (W : World) : (Instr.checkKey b (n + 1) kt (.string k)).run P W = .ok () W := by
 simp [Instr.checkKey, aQ a]
theorem px.string (a : P.underlying kt = some .string) : px P kt Value.string ma where
 check := fun b k W => uB a 9999 b k W
 find := fun k l es h W => by
  simp only [Instr.findKey, cd, aQ a, bK]
  have := Fl k l es 0 h
  rw [this]
  simp
 eq := fun k x h => by rw [mM.1 h]
 bits := fun k => by simp only [Instr.sameBits]; rw [D5]; exact mM.2 rfl
variable {β : Type} {vf : β → Value} {E : Nat → Value} {d : Option Nat} {ty : TypeId} {pos : String} {af : Array Edge} {g : Option (Nat × Bool)} {F : Nat → Prop} {w : World} {μ : lm} {L : List (Nat × Obj)}
theorem xj.keys {l : List (κ × β)} {es : Array MapEntry} {clock : Nat} (h : xj kenc vf l es clock) : es.toList.map (·.key) = (l.map (·.1)).map kenc := by
 have := aV (List.map Prod.fst) h.HZ
 simpa [gE] using this
theorem xj.length {l : List (κ × β)} {es : Array MapEntry} {clock : Nat} (h : xj kenc vf l es clock) : es.size = l.length := by
 have := aV List.length h.HZ
 simpa using this
theorem xj.get {l : List (κ × β)} {es : Array MapEntry} {clock : Nat} (h : xj kenc vf l es clock) (k : κ) :
  (((l.map (·.1)).findIdx? (fun x => beq k x)).bind fun i => (es.toList[i]?).map fun e => (i, e.val)) = (l.findIdx? (fun p => beq k p.1)).bind fun i => (l[i]?).map fun p => (i, vf p.2) := by
 rw [gF]
 show ((l.findIdx? (fun p => beq k p.1)).bind _) = _
 congr 1
 funext i
 have := aV (fun q => q[i]?) h.HZ
 simp only [du] at this
 cases h1 : es.toList[i]? with
 | none => rw [h1] at this; cases a : l[i]? with
  | none => rfl
  | some p => rw [a] at this; cases this
 | some e => rw [h1] at this; cases a : l[i]? with
  | none => rw [a] at this; cases this
  | some p => rw [a] at this; simp at this; simp [this.2]
theorem Aw (l : List (κ × β)) (k : κ) : mi beq l k = (l.findIdx? (fun p => beq k p.1)).bind fun i => (l[i]?).map (·.2) := by
 induction l with
 | nil => rfl
 | cons p l ih =>
  simp only [mi, gf, eK] at ih ⊢
  cases beq k p.1 with
  | true => rfl
  | false =>
   simp only [aB, aP]
   rw [ih]
   cases l.findIdx? (fun p => beq k p.1) <;> simp
theorem MQ {t e : TypeId} {m x : Operand} {s z : Value} {l : List (κ × β)} {k : κ} (K : px P kt kenc beq) (o : P.underlying t = some (.map kt e)) (c : ∀ w, (zeroValue e).run P w = .ok z w) (hm : kG E m = s) (A : kG E x = kenc k) (v : xk kenc vf (hp W) s l) :
  mw P E ⟨d, .lookup t m x false, ty, pos, af, g⟩ W (((mi beq l k).map vf).getD z) W := by
 show (do pure (.value (← Instr.lookup t (kG E m) (kG E x) false)) : Sem Next).run P W = _
 rw [hm, A]
 rcases v with ⟨rfl, rfl⟩ | ⟨q, es, clock, rfl, y, h⟩
 ·have := K.find k [] [] rfl W
  simp [Instr.lookup, aQ o, K.check, this, c W, mi]
 ·have a : W.heap[q]? = some (.map es clock) := y
  have u : (getObj q : Sem Obj).run P W = .ok (.map es clock) W := by simp [getObj, Sem.run, a]
  have j := K.find k _ _ h.keys W
  rw [h.get k] at j
  simp only [Instr.lookup, cd, aQ o, bK, u, da, K.check, j, Aw]
  cases D : l.findIdx? (fun p => beq k p.1) with
  | none => simp [c W]
  | some i =>
   cases n : l[i]? with
   | none => simp [n, c W]
   | some p => simp [n]
theorem tZ {l : List (κ × β)} {k : κ} {i : Nat} (h : l.findIdx? (fun p => beq k p.1) = some i) : ∃ p, l[i]? = some p ∧ beq k p.1 = true := by
 rw [dP] at h
 obtain ⟨h1, a, _⟩ := h
 exact ⟨l[i], cj h1, a⟩
theorem xj.put {l : List (κ × β)} {es : Array MapEntry} {clock : Nat} (h : xj kenc vf l es clock) (k : κ) (v : β) :
  match l.findIdx? (fun p => beq k p.1) with
  | some i => xj kenc vf (l.set i (k, v)) (es.modify i fun e => { e with key := kenc k, val := vf v }) clock
  | none => xj kenc vf (l ++ [(k, v)]) (es.push { key := kenc k, val := vf v, born := clock }) (clock + 1) := by
 cases o : l.findIdx? (fun p => beq k p.1) with
 | none =>
  refine ⟨?_, ?_, ?_⟩
  ·simp [h.HZ]
  ·simp only [Array.toList_push, dv]
   exact ⟨h.born, by simp, fun a ha b n => by simp at n; subst n; exact h.lt a ha⟩
  ·intro e he
   simp at he
   rcases he with he | rfl
   ·exact Nat.lt_succ_of_lt (h.lt e (by simpa using he))
   ·exact bT _
 | some i =>
  obtain ⟨p, hp, _⟩ := tZ o
  have u : i < l.length := (bA.1 hp).1
  have c : (es.modify i fun e => { e with key := kenc k, val := vf v }).toList.map (·.born) = es.toList.map (·.born) := by
   apply dC
   intro j
   simp only [du, de, dK]
   split
   ·cases es[j]? <;> simp
   ·rfl
  refine ⟨?_, ?_, ?_⟩
  ·apply dC
   intro j
   have g := aV (fun q => q[j]?) h.HZ
   simp only [du, de] at g
   simp only [du, de, dK, eS]
   by_cases d : i = j
   ·subst d
    simp only [bc]
    rw [aM u]
    cases s : es[i]? with
    | none => rw [s, hp] at g; cases g
    | some e => rfl
   ·rw [aK d, aK d]; exact g
  ·have := h.born
   rw [← fF (f := fun e : MapEntry => e.born) (R := (· < ·))] at this ⊢
   rw [c]; exact this
  ·intro e he
   have : e.born ∈ es.toList.map (·.born) := by rw [← c]; exact bH.2 ⟨e, he, rfl⟩
   obtain ⟨e', m, t⟩ := bH.1 this
   rw [← t]; exact h.lt e' m
theorem AR {W : World} {r : Nat} {es : Array MapEntry} {c : Nat} (d : W.heap[r]? = some (.map es c)) (a : Obj) : (setObj r a).run P W = .ok () (ChangeMaps.setBlock W r a) := by
 simp [setObj, Sem.run, d, ChangeMaps.setBlock]
theorem ST.setBlock {A B : List (Nat × Obj)} {b : Nat} {o : Obj} (h : ST dd F w W μ (A ++ (b, o) :: B)) (c : Obj) : ST dd F w (ChangeMaps.setBlock W b c) μ (A ++ (b, c) :: B) := by
 have d := (h.box b o (by simp)).1
 have a := oM d
 refine h.put ⟨rfl, rfl, rfl, bB _, by simp [ChangeMaps.setBlock]⟩ (fun k hk => ?_) ?_
 ·simp only [ChangeMaps.setBlock]
  rw [Array.getElem?_setIfInBounds_ne (fun e => hk e.symm)]
 ·simp only [ChangeMaps.setBlock]
  rw [Array.getElem?_setIfInBounds_self_of_lt a]
theorem BO {I : Value → World → Prop} (X : List (Nat × Obj)) {Y R : List (Nat × Obj)} {t e : TypeId} {m x y : Operand} {G : Value} {l : List (κ × β)} {k : κ} {v : β} (K : px P kt kenc beq) (M : P.underlying t = some (.map kt e)) (n : ST dd F w W μ (X ++ (R ++ Y))) (h : mu kenc vf G l R) (hm : kG E m = G) (Q : kG E x = kenc k) (T : kG E y = vf v) (L : ∀ W' R', ST dd F w W' μ (X ++ (R' ++ Y)) → mu kenc vf G (oh beq l k v) R' → I undef W') : nH P E ⟨d, .mapUpdate t m x y, ty, pos, af, g⟩ W I := by
 obtain ⟨c, es, clock, rfl, rfl, z⟩ := h
 have A : W.heap[c]? = some (.map es clock) := (n.box c (.map es clock) (by simp)).1
 have J : (getObj c : Sem Obj).run P W = .ok (.map es clock) W := by simp [getObj, Sem.run, A]
 have o := K.find k _ _ z.keys W
 rw [z.get k] at o
 have a := z.put (beq := beq) k v
 have j : ∀ W', (Instr.mapUpdate t (.map (some c)) (kenc k) (vf v)).run P W = .ok () W' → (execOp (kG E) ⟨d, .mapUpdate t m x y, ty, pos, af, g⟩).run P W = .ok .skip W' := by
  intro W' O
  show (do Instr.mapUpdate t (kG E m) (kG E x) (kG E y); pure .skip : Sem Next).run P W = _
  rw [hm, Q, T]
  simp [O]
 cases s : l.findIdx? (fun p => beq k p.1) with
 | none =>
  rw [s] at o a
  refine .inr (.inl ⟨ChangeMaps.setBlock W c (.map (es.push { key := kenc k, val := vf v, born := clock }) (clock + 1)), j _ ?_, L _ [(c, _)] (n.setBlock _) ⟨c, _, _, rfl, rfl, ?_⟩⟩)
  ·simp [Instr.mapUpdate, aQ M, J, K.check, o, AR A]
  ·rw [oh, s]; exact a
 | some i =>
  obtain ⟨p, hp, D⟩ := tZ s
  rw [s] at o a
  simp only [aA, hp, dz] at o
  have u : ((es[i]?).map (·.key)).getD (kenc k) = kenc k := by
   have := aV (fun q => q[i]?) z.keys
   simp only [du, hp, dz, de] at this
   rw [this]
   simp [K.eq k p.1 D]
  refine .inr (.inl ⟨ChangeMaps.setBlock W c (.map (es.modify i fun e => { e with key := kenc k, val := vf v }) clock), j _ ?_, L _ [(c, _)] (n.setBlock _) ⟨c, _, _, rfl, rfl, ?_⟩⟩)
  ·simp only [Instr.mapUpdate, cd, aQ M, J, K.check, o, bK, u, Instr.keyThatStays, K.bits, bc, da]
   exact AR A _
  ·rw [oh, s]; exact a
theorem D9 {c : Value → World → Prop} {t : TypeId} (kenc : κ → Value) (vf : β → Value) (a : ST dd F w W μ L) (h : ∀ W' v R, ST dd F w W' μ (R ++ L) → mu kenc vf v [] R → c v W') : nH P E ⟨d, .makeMap t none, ty, pos, af, g⟩ W c :=
 .inl ⟨.map (some W.heap.size), W.alloc (.map #[] 0), by
   show (do pure (.value (← Instr.makeMap t none)) : Sem Next).run P W = _
   simp [Instr.makeMap, newObj, Sem.run], h _ _ [(W.heap.size, .map #[] 0)] (a.alloc _) ⟨_, _, _, rfl, rfl, ⟨rfl, by simp, by simp⟩⟩⟩
end
end Go.Proofs.YtbnbdigcbldfhaaGreat
namespace Go.Proofs.YtbnbdigcbldfhaaGreat
open Go.RowKit
variable {dd : Bool}
open Classical in
noncomputable def Hu {α β : Type} (l : List α) (f : List α → Option β) : Option β :=
 if h : ∃ r, ∀ o, o.Perm l → f o = some r then some h.choose else none
theorem I9 {α β : Type} {l : List α} {f : List α → Option β} {r : β} (h : ∀ o, o.Perm l → f o = some r) : Hu l f = some r := by
 have a : ∃ r, ∀ o, o.Perm l → f o = some r := ⟨r, h⟩
 unfold Hu
 rw [dif_pos a]
 have h1 := a.choose_spec l (.refl l)
 rw [h l (.refl l)] at h1
 exact h1.symm
end Go.Proofs.YtbnbdigcbldfhaaGreat
namespace Go.Proofs.YtbnbdigcbldfhaaGreat
open Go.RowKit
variable {dd : Bool}
def Ip {α β : Type} (P : Program) (fv : Value) (μ : lm) (a : α → List Value) (c : β → Value) (pm : α → Option β) : Prop :=
 ∃ f caps, fv = .func (.func f) #[] caps ∧ (∀ args w, (callFunc f args).run P w = .ok (.enter f args) w) ∧ ∀ W x r, kY μ (hp W) → pm x = some r → la true P f (a x ++ caps.toList) W (c r)
def th {α β : Type} (P : Program) (fv : Value) (μ : lm) (a : α → List Value) (c : β → Value) (pm : α → Option β) : Prop :=
 ∃ f first caps, fv = .func (.func f) first caps ∧ (∀ args w, (callFunc f args).run P w = .ok (.enter f args) w) ∧ ∀ W x r, kY μ (hp W) → pm x = some r → la false P f (first.toList ++ (a x ++ caps.toList)) W (c r)
theorem th.form {α β : Type} {P : Program} {fv : Value} {μ : lm} {c : α → List Value} {d : β → Value} {pm : α → Option β} (h : th P fv μ c d pm) : ∃ f a b, fv = .func f a b := let ⟨f, a, b, h, _⟩ := h; ⟨_, a, b, h⟩
section
variable {P : Program} {W : World} {E : Nat → Value} {d : Option Nat} {ty : TypeId} {pos : String} {af : Array Edge} {g : Option (Nat × Bool)} {F : Nat → Prop} {w : World} {μ μ0 : lm} {L : List (Nat × Obj)}
theorem th.mono {α β : Type} {fv : Value} {a : α → List Value} {c : β → Value} {pm : α → Option β} (h : th P fv μ a c pm) (i : kY μ μ0) : th P fv μ0 a c pm := by
 obtain ⟨f, first, caps, h1, d, g⟩ := h
 exact ⟨f, first, caps, h1, d, fun W x r h => g W x r (i.trans h)⟩
theorem Bk {α β : Type} {K : Value → World → Prop} {fv : Value} {c : α → List Value} {k : β → Value} {pm : α → Option β} {i : Operand} {ax : Array Operand} {ats : Array TypeId} (x : α) {r : β} (a : ST false F w W μ L) (s : th P fv μ0 c k pm) (u : kY μ0 μ) (t : kG E i = fv) (ha : ax.map (kG E) ++ (#[] : Array Value) = (c x).toArray) (hm : pm x = some r) (h : ∀ W', ST false F w W' μ L → K (k r) W') : nH P E ⟨d, .call ⟨.value i, ax, ats⟩, ty, pos, af, g⟩ W K := by
 obtain ⟨f, first, caps, rfl, m, n⟩ := s
 have j : ax.map (kG E) = (c x).toArray := by simpa using ha
 refine .inr (.inr ⟨f, (first.toList ++ (c x ++ caps.toList)).toArray, ?_, cH (n W x r (u.trans a.kJ) hm) (fun _ _ ⟨o, q⟩ => ⟨_, o, h _ (a.HP q)⟩)⟩)
 show (do let d ← resolve (kG E) ⟨.value i, ax, ats⟩ ty; invoke d.target d.args : Sem Next).run P W = _
 simp only [resolve, t, Deferred.ofValue, cd, da, bK, invoke, j, m]
 congr 2
 simp
end
end Go.Proofs.YtbnbdigcbldfhaaGreat
namespace Go.Proofs.YtbnbdigcbldfhaaGreat
open Go.RowKit
variable {dd : Bool}
def Cu (A : List (Nat × Obj)) : lm := fun b => (A.find? (fun p => p.1 == b)).map (·.2)
theorem xF {A : List (Nat × Obj)} {W : World} (h : ∀ b o, (b, o) ∈ A → W.heap[b]? = some o) : ∀ b o, Cu A b = some o → W.heap[b]? = some o := fun b o a => by
 unfold Cu at a
 cases c : A.find? (fun p => p.1 == b) with
 | none => rw [c] at a; cases a
 | some p =>
  rw [c] at a
  cases a
  have h1 := eO c
  have d := ki c
  simp at d
  subst d
  exact h _ _ h1
theorem At.of {M : lm} {b : Nat} {cs : Array Value} {T : TypeId} {fr : Nat × Nat} (h : M b = some (.cells cs T fr)) (ys : List Value) (c : cs.toList = ys) : At M (.pointer (some ⟨b, 0, none⟩)) ys :=
 ⟨b, 0, cs, T, fr, rfl, h, fun j y a => by subst c; simpa using a⟩
section
variable {F : Nat → Prop} {w W W' : World} {μ μ' : lm} {L L0 L1 L2 : List (Nat × Obj)}
theorem ST.KE (h : ST dd F w W μ L) (a : L.Perm (L0 ++ L2)) : ∀ b o, (b, o) ∈ L2 → sH W L0 b = some o := fun b o c => by
 have h1 := (h.perm a).at_ (cD _ c)
 unfold sH
 rw [aK (HO (h.perm a).nd c)]
 exact h1
theorem ST.held (h : ST dd F w W μ L) (a : L.Perm (L0 ++ L2)) : EU L0 W := fun b o c => ((h.perm a).box b o (bI _ c)).1
theorem ST.Tj (h : ST dd F w W μ L) (a : L.Perm (L0 ++ L2)) : (L0.map (·.1)).Nodup := by
 have := (h.perm a).nd
 rw [ct] at this
 exact (bN.1 this).1
theorem ST.TM (h : ST dd F w W μ L) (a : L.Perm (L0 ++ L2)) : kY μ (sH W L0) := (h.perm a).lV (fun _ hp => bI _ hp)
end
section
variable {P : Program} {E : Nat → Value} {W : World} {d : Option Nat} {ty : TypeId} {pos : String} {af : Array Edge} {g : Option (Nat × Bool)}
 {F : Nat → Prop} {w : World} {μ : lm} {L : List (Nat × Obj)}
theorem U6 {K : Value → World → Prop} {K' : Value → List (Nat × Obj) → World → Prop} {f : FuncId} {fv : Operand} {ax : Array Operand} {ats : Array TypeId} {caps : Array Value} {args : List Value} (L0 L2 : List (Nat × Obj)) (a : ST dd F w W μ L) (c : L.Perm (L0 ++ L2)) (n : kG E fv = .func (.func f) #[] caps) (he : ∀ args w, (callFunc f args).run P w = .ok (.enter f args) w) (ha : ax.map (kG E) ++ (#[] : Array Value) = args.toArray) (m : EU L0 W → (L0.map (·.1)).Nodup → kY μ (sH W L0) → (∀ b o, (b, o) ∈ L2 → sH W L0 b = some o) → mh dd P f (args ++ caps.toList) W L0 K') (h : ∀ W' v μ' L1, ST dd F w W' μ' (L1 ++ L2) → kY μ μ' → Lo F w μ μ' → (∀ b, W.heap.size ≤ b → ∀ o, sH W' L1 b = some o → μ' b = some o) → K' v L1 W' → K v W') : nH P E ⟨d, .call ⟨.value fv, ax, ats⟩, ty, pos, af, g⟩ W K := by
 have i : ax.map (kG E) = args.toArray := by simpa using ha
 refine HM (args := (args ++ caps.toList).toArray) n he (by rw [i]; simp) (cH (m (a.held c) (a.Tj c) (a.TM c) (a.KE c)) (fun _ W' ⟨v, L1, h1, j, k⟩ => ⟨v, h1, h W' v _ L1 ((a.perm c).back j) ((a.perm c).KU W' L1) ((a.perm c).N3 W' L1) ?_ k⟩))
 intro b s o q
 unfold En
 rw [aK (by omega)]
 exact q
theorem Sl.lift {α : Type} {enc : α → List Value} {k : Nat} {M μ' : lm} {B : Nat} {v : Value} {l : List α} (h : Sl (Pl enc) k M v l) (q : Fr B v) (n : ∀ b, B ≤ b → ∀ o, M b = some o → μ' b = some o) : Sl (Pl enc) k μ' v l := by
 obtain ⟨A, c, h1, d, g, i⟩ := h
 refine ⟨A, c, h1, d, g, fun s => ?_⟩
 obtain ⟨b, off, cs, T, fr, a, j, m⟩ := i s
 exact ⟨b, off, cs, T, fr, a, n b (q b (by rw [h1, a]; rfl)) _ j, m⟩
theorem Ax {t : TypeId} (dd : Nat) {s u : Array TypeId} {b : Bool} (d : P.underlying t = some (.func s u b)) (f : Fn) (a c : Array Value) (W : World) : (Op.equalIn (dd + 1) t (.func f a c) .nilFunc).run P W = .ok false W := by
 simp [Op.equalIn, aQ d]
theorem Oz {tx tv : TypeId} {x y : Operand} {f : Fn} {a b : Array Value} {s u : Array TypeId} {bb : Bool} (h : P.underlying tx = some (.func s u bb)) (i : kG E x = .func f a b) (j : kG E y = .nilFunc) :
  mw P E ⟨d, .binOp .neq tx x y tv, ty, pos, af, g⟩ W (.bool true) W := by
 show (do let r ← (do eqGuard .neq tx x y (kG E x) (kG E y); binOp .neq tx (kG E x) (kG E y)); pure (.value r) : Sem Next).run P W = _
 rw [i, j]
 have c := Ax 9999 h f a b W
 simp [eqGuard, binOp, Op.equal, show Op.maxDepth = 9999 + 1 from rfl, c]
theorem Ot {tx tv : TypeId} {x y : Operand} {f : Fn} {a b : Array Value} {s u : Array TypeId} {bb : Bool} (h : P.underlying tx = some (.func s u bb)) (i : kG E x = .func f a b) (j : kG E y = .nilFunc) :
  mw P E ⟨d, .binOp .eql tx x y tv, ty, pos, af, g⟩ W (.bool false) W := by
 show (do let r ← (do eqGuard .eql tx x y (kG E x) (kG E y); binOp .eql tx (kG E x) (kG E y)); pure (.value r) : Sem Next).run P W = _
 rw [i, j]
 have c := Ax 9999 h f a b W
 simp [eqGuard, binOp, Op.equal, show Op.maxDepth = 9999 + 1 from rfl, c]
end
def zx {κ β : Type} (beq : κ → κ → Bool) (l : List (κ × β)) (k : κ) (z : β) : β := (mi beq l k).getD z
section
variable {P : Program} {W : World} {κ β : Type} {kt : TypeId} {kenc : κ → Value} {beq : κ → κ → Bool} {vf : β → Value} {E : Nat → Value} {d : Option Nat} {ty : TypeId} {pos : String} {af : Array Edge} {g : Option (Nat × Bool)} {F : Nat → Prop} {w : World} {μ : lm} {L R : List (Nat × Obj)} {v : Value} {left : List (κ × β)}
theorem xB {t e : TypeId} {m x : Operand} {a : Value} {l : List (κ × β)} {k : κ} {z : β} (K : px P kt kenc beq) (i : P.underlying t = some (.map kt e)) (n : ∀ w, (zeroValue e).run P w = .ok (vf z) w) (hm : kG E m = a) (j : kG E x = kenc k) (c : xk kenc vf (hp W) a l) :
  mw P E ⟨d, .lookup t m x false, ty, pos, af, g⟩ W (vf (zx beq l k z)) W := by
 have := MQ (d := d) (ty := ty) (pos := pos) (af := af) (g := g) K i n hm j c
 rw [zx]
 cases h : mi beq l k with
 | none => rw [h] at this; exact this
 | some y => rw [h] at this; exact this
theorem mu.one {a : Value} {l : List (κ × β)} (h : mu kenc vf a l R) : a.oneCell' = true := by obtain ⟨m, es, clock, rfl, _⟩ := h; rfl
theorem mu.form {a : Value} {l : List (κ × β)} (h : mu kenc vf a l R) : ∃ m, a = .map (some m) := by obtain ⟨m, es, clock, rfl, _⟩ := h; exact ⟨m, rfl⟩
theorem mu.nd {a : Value} {l : List (κ × β)} (h : mu kenc vf a l R) : (R.map (·.1)).Nodup := by obtain ⟨m, es, clock, rfl, rfl, _⟩ := h; simp
theorem mu.BX {a : Value} {l : List (κ × β)} (h : mu kenc vf a l R) : xk kenc vf (Cu R) a l := by
 obtain ⟨m, es, clock, rfl, rfl, c⟩ := h
 exact .inr ⟨m, es, clock, rfl, by simp [Cu], c⟩
end
def oA {α : Type} (l : List α) (i : Nat) (z : α) : List α := l.take i ++ List.replicate (l.length - i) z
theorem wv {α : Type} (l : List α) (i : Nat) (z : α) (h : i ≤ l.length) : (oA l i z).length = l.length := by simp [oA]; omega
theorem Iu {α : Type} (l : List α) (i : Nat) (z : α) (h : i ≤ l.length) : (oA l i z).take i = l.take i := by
 simp only [oA]
 rw [eF, cX (by simp; omega)]
 simp; omega
end Go.Proofs.YtbnbdigcbldfhaaGreat
namespace Go.Proofs.YtbnbdigcbldfhaaGreat
open Go.RowKit
theorem Lv {P : Program} {cs : Array Value} {b : Bool} {n : Nat} {W : World} : ∀ (l : List Field),
  (∀ f ∈ l, f.name ≠ "_" → ∃ v, (part f.type cs f.offset).run P W = .ok v W ∧ (Instr.checkKey b n f.type v).run P W = .ok () W) →
  ((forIn l PUnit.unit fun f (_ : PUnit) => do
   if f.name ≠ "_" then Instr.checkKey b n f.type (← part f.type cs f.offset)
   pure (ForInStep.yield PUnit.unit)) : Sem PUnit).run P W = .ok PUnit.unit W
 | [], _ => by simp
 | f :: l, h => by
  have ih := Lv l (fun f d => h f (dH _ d))
  simp only [List.forIn_cons, cd]
  by_cases a : f.name ≠ "_"
  ·obtain ⟨v, h1, c⟩ := h f (by simp) a
   simp only [aM a, cd, h1, bK, c, da]
   exact ih
  ·simp only [aK a, cd, da, bK]
   exact ih
theorem Bg {P : Program} {kt : TypeId} {a : Array Field} {l : List Field} {cs : Array Value} {b : Bool} {n : Nat} {W : World} (d : P.underlying kt = some (.struct a)) (c : a.toList = l) (h : ∀ f ∈ l, f.name ≠ "_" → ∃ v, (part f.type cs f.offset).run P W = .ok v W ∧ (Instr.checkKey b n f.type v).run P W = .ok () W) : (Instr.checkKey b (n + 1) kt (.agg cs)).run P W = .ok () W := by
 obtain ⟨a⟩ := a
 subst c
 simp only [Instr.checkKey, cd, aQ d, bK, List.forIn_toArray]
 have := Lv (P := P) (cs := cs) (b := b) (n := n) (W := W) a h
 simp only [cd] at this
 first | rw [this]; rfl | simpa using this
variable {dd : Bool}
def nG (b : Bool) : Option Unit := if b = true then some () else none
theorem IA {b : Bool} {u : Unit} (h : nG b = some u) : b = true := by
 unfold nG at h; split at h
 ·assumption
 ·cases h
theorem qD {a c : Int} {u : Unit} (h : nG (decide (0 ≤ a) && decide (a ≤ c)) = some u) : 0 ≤ a := by have := IA h; simp at this; exact this.1
theorem qw {a c : Int} {u : Unit} (h : nG (decide (0 ≤ a) && decide (a ≤ c)) = some u) : a ≤ c := by have := IA h; simp at this; exact this.2
def EA (k : Nat) (v : Value) (i : Nat) (u : Value) : Prop := ∃ A n c A' a, v = .slice A n c ∧ u = .slice A' (n - i) a ∧ i ≤ n ∧ (i < n → ∃ b o, A = some ⟨b, o, none⟩ ∧ A' = some ⟨b, o + i * k, none⟩)
section
variable {P : Program} {E : Nat → Value} {W : World} {d : Option Nat} {ty : TypeId} {pos : String} {af : Array Edge} {g : Option (Nat × Bool)}
 {F : Nat → Prop} {w : World} {μ : lm} {L : List (Nat × Obj)} {α : Type} {e' : TypeId} {enc : α → List Value} {k : Nat} {v : Value} {l : List α} {R : List (Nat × Obj)}
theorem tV {t e : TypeId} {x a : Operand} {A : IntKind} {i : Int} (n : P.underlying t = some (.slice e)) (he : ∀ w, (sizeOf e).run P w = .ok k w) (o : kG E x = v) (j : kG E a = .int A i) (h : kU e' enc k v l R) (s : 0 ≤ i) (m : i ≤ l.length) :
  ∃ u, EA k v i.toNat u ∧ ∀ W, mw P E ⟨d, .slice t x (some a) none none, ty, pos, af, g⟩ W u W := by
 rcases h with ⟨rfl, rfl, rfl⟩ | ⟨c, cap, q, rfl, rfl, h1, D, G, I⟩
 ·have : i = 0 := by simp at m; omega
  subst this
  refine ⟨.slice none 0 0, ⟨none, 0, 0, none, 0, rfl, rfl, bB _, fun h => absurd h (by simp)⟩, fun W => ?_⟩
  show (do pure (.value (← Instr.sliceAt t (kG E x) (some (kG E a)) none none)) : Sem Next).run P W = _
  rw [o, j]
  simp [Instr.sliceAt, Instr.slice, Instr.sliceBounds, Instr.sliceBound, asIntOf, aQ n, he W]
 ·refine ⟨.slice (some (if cap = i.toNat then ⟨c, 0, none⟩ else (Addr.add ⟨c, 0, none⟩ (i.toNat * k)))) (l.length - i.toNat) (cap - i.toNat), ⟨_, _, _, _, _, rfl, rfl, by omega, fun z => ⟨c, 0, rfl, ?_⟩⟩, fun W => ?_⟩
  ·rw [aK (by omega)]; simp [dm]
  ·show (do pure (.value (← Instr.sliceAt t (kG E x) (some (kG E a)) none none)) : Sem Next).run P W = _
   rw [o, j]
   have y : 0 ≤ i ∧ i ≤ (l.length : Int) := ⟨s, m⟩
   simp [Instr.sliceAt, Instr.slice, Instr.sliceBounds, Instr.sliceBound, asIntOf, aQ n, he W, y]
   split <;> rfl
theorem xd {i j : Nat} {x0 : α} (h : (l.drop i)[j]? = some x0) : l[i + j]? = some x0 := by rwa [dw] at h
theorem GW {t e : TypeId} {x : Operand} {u : Value} {i : Nat} (m : P.underlying t = some (.slice e)) (o : kG E x = u) (hu : EA k v i u) (h : kU e' enc k v l R) : mw P E ⟨d, .call ⟨.builtin .len, #[x], #[t]⟩, ty, pos, af, g⟩ W (.int .i64 ((l.length - i : Nat) : Int)) W := by
 obtain ⟨A, n, c, A', q, h1, j, w, _⟩ := hu
 subst j
 have : n = l.length := by
  rcases h with ⟨rfl, rfl, rfl⟩ | ⟨s, cap, a, rfl, rfl, _⟩
  ·cases h1; rfl
  ·cases h1; rfl
 subst this
 exact BG m o
theorem ub {t e : TypeId} {x m : Operand} {Q : IntKind} {i : Int} {x0 : α} {u : Value} {o : Nat} (M : P.underlying t = some (.slice e)) (he : ∀ w, (sizeOf e).run P w = .ok k w) (O : kG E x = u) (J : kG E m = .int Q i) (h : kU e' enc k v l R) (hu : EA k v o u) (D : 0 ≤ i) (L : (l.drop o)[i.toNat]? = some x0) :
  ∃ p, E2 R k p (o + i.toNat) ∧ ∀ W, mw P E ⟨d, .indexAddr t x m, ty, pos, af, g⟩ W p W := by
 have a := xd L
 have j : o + i.toNat < l.length := (bA.1 a).1
 rcases h with ⟨rfl, rfl, rfl⟩ | ⟨z, cap, q, rfl, rfl, h1, U, Y, Z⟩
 ·simp at j
 obtain ⟨A, n, c, A', T, s, rfl, h7, G⟩ := hu
 cases s
 obtain ⟨b, oo, y, rfl⟩ := G (by omega)
 cases y
 refine ⟨.pointer (some ⟨z, (o + i.toNat) * k, none⟩), ⟨_, _, rfl, rfl⟩, fun W => ?_⟩
 show (do pure (.value (← Instr.indexAt t (kG E x) (kG E m))) : Sem Next).run P W = _
 rw [O, J]
 have I : 0 ≤ i ∧ i < ((l.length - o : Nat) : Int) := ⟨D, by omega⟩
 simp [Instr.indexAt, asIntOf, aQ M, he W, I, dm, cA]
theorem JM {u : rA α} {t e : TypeId} {x ih : Operand} {U : IntKind} {j : Int} (R : P.underlying t = some (.slice e)) (he : ∀ w, (sizeOf e).run P w = .ok k w) (m : kG E x = v) (O : kG E ih = .int U j) (h : Sl u k μ v l) (D : 0 ≤ j) (hl : j ≤ l.length) :
  ∃ s, (Sl u k μ s (l.take j.toNat) ∧ ∀ B, Fr B v → Fr B s) ∧ ∀ W, mw P E ⟨d, .slice t x none (some ih) none, ty, pos, af, g⟩ W s W := by
 obtain ⟨A, c, rfl, Z, G, I⟩ := h
 have Q : j.toNat ≤ l.length := by omega
 refine ⟨.slice A (l.take j.toNat).length c, ⟨⟨A, c, rfl, by simp; omega, G, fun hp => ?_⟩, fun B M b n => M b (by cases A with | none => simp [Value.ownBlock] at n | some a => (obtain ⟨y, Y, q⟩ := a; cases q <;> simp [Value.ownBlock] at n ⊢ <;> exact n))⟩, fun W => ?_⟩
 ·have o : 0 < l.length := by simp at hp; omega
  obtain ⟨b, off, cs, T, fr, rfl, J, L⟩ := I o
  refine ⟨b, off, cs, T, fr, rfl, J, fun i x m => ?_⟩
  rw [dx] at m
  split at m
  ·exact L i x m
  ·cases m
 ·show (do pure (.value (← Instr.sliceAt t (kG E x) none (some (kG E ih)) none)) : Sem Next).run P W = _
  rw [m, O]
  have n : 0 ≤ j ∧ j ≤ (c : Int) := ⟨D, by omega⟩
  have z : min j.toNat l.length = j.toNat := by omega
  simp [Instr.sliceAt, Instr.slice, Instr.sliceBounds, Instr.sliceBound, asIntOf, aQ R, he W, n, z]
  intro _
  cases A with
  | none => rfl
  | some a => obtain ⟨y, Y, q⟩ := a; cases q <;> simp [Addr.add]
theorem Fh (ys : List Value) (m : Nat) : (Builtin.zeroCells ys.toArray m).toList = (List.replicate m ys).flatten := by
 unfold Builtin.zeroCells
 simp only [Array.toList_map, Array.toList_range, cM]
 rcases dG ys.length with a | a
 ·have : ys = [] := dF.1 a
  subst this
  simp
 apply dC
 intro q
 by_cases d : q < m * ys.length
 ·have h1 : q / ys.length < m := (ie a).2 d
  have c : q % ys.length < ys.length := Nat.mod_lt _ a
  have := yU (enc := fun _ : Unit => ys) (fun _ => rfl) (List.replicate m ()) (q / ys.length) () (by simp [h1]) (q % ys.length) ys[q % ys.length] (by simp [c])
  rw [Nat.div_add_mod' q ys.length] at this
  rw [jd] at this
  rw [this]
  simp [d, c]
 ·rw [cR (by simp; omega), cR (by simp; omega)]
theorem OT {K : Value → World → Prop} (z : α) (X : List (Nat × Obj)) {Y : List (Nat × Obj)} {t e : TypeId} {x : Operand} {u zv : Value} {i : Nat} (q : ST dd F w W μ (X ++ (R ++ Y))) (h : kU e' enc k v l R) (hk : ∀ x, (enc x).length = k) (h1 : ∀ x, ∀ u ∈ enc x, u.oneCell' = true) (Q : P.underlying t = some (.slice e)) (hz : ∀ w, (zeroValue e).run P w = .ok zv w) (hu : EA k v i u) (hc : zv.cells = (enc z).toArray) (hx : kG E x = u) (M : ∀ W' R', ST dd F w W' μ (X ++ (R' ++ Y)) → kU e' enc k v (oA l i z) R' → K (.tuple #[]) W') : nH P E ⟨d, .call ⟨.builtin .clear, #[x], #[t]⟩, ty, pos, af, g⟩ W K := by
 have j : ∀ (W' : World), (Builtin.clear_ #[t] ty #[u]).run P W = .ok (.tuple #[]) W' → (execOp (kG E) ⟨d, .call ⟨.builtin .clear, #[x], #[t]⟩, ty, pos, af, g⟩).run P W = .ok (.value (.tuple #[])) W' := by
  intro W' hV
  show (do let d ← resolve (kG E) ⟨.builtin .clear, #[x], #[t]⟩ ty; invoke d.target d.args : Sem Next).run P W = _
  simp [resolve, invoke, builtin, hx, hV]
 obtain ⟨A, n, c, A', c', e1, rfl, G, h8⟩ := hu
 rcases h with ⟨rfl, rfl, rfl⟩ | ⟨y, cap, a, rfl, rfl, Z, q2, J, q4⟩
 ·cases e1
  refine .inl ⟨_, W, j W ?_, M W [] q (by simpa [oA] using kU.nil e' enc k)⟩
  simp only [Builtin.clear_, Nat.zero_sub]
  cases A' <;> simp [aQ Q]
 ·cases e1
  by_cases hi : i < l.length
  ·obtain ⟨b, o, e2, rfl⟩ := h8 hi
   cases e2
   have U : ∀ m, (Builtin.zeroCells zv.cells m).toList = (List.replicate m (enc z)).flatten := by
    intro m
    rw [hc]; exact Fh _ _
   have hb := (q.box y (.cells a e' (0, 0)) (by simp)).1
   have hle : i * k + (l.length - i) * k = l.length * k := by rw [← cA]; congr 1; omega
   have hlen : l.length * k ≤ c * k := cn _ Z
   have s : ((List.replicate (l.length - i) (enc z)).flatten).length = (l.length - i) * k := by simp [hk]
   have D : ∀ v ∈ (List.replicate (l.length - i) (enc z)).flatten, v.oneCell' = true := by
    intro v I
    obtain ⟨ys, T, I⟩ := ir.1 I
    rw [(List.mem_replicate.1 T).2] at I
    exact h1 z v I
   have hs := jw (P := P) y (i * k) e' ((List.replicate (l.length - i) (enc z)).flatten) 0 a W hb (by rw [s, J]; omega) D
   rw [jV, s, hle] at hs
   refine .inl ⟨_, W.setRow y (a.toList.take (i * k) ++ (List.replicate (l.length - i) (enc z)).flatten ++ a.toList.drop (l.length * k)).toArray, j _ ?_, M _ [(y, .cells (a.toList.take (i * k) ++ (List.replicate (l.length - i) (enc z)).flatten ++ a.toList.drop (l.length * k)).toArray e' (0, 0))] (q.store _) (.inr ⟨y, c, _, by rw [wv _ _ _ G], rfl, by rw [wv _ _ _ G]; exact Z, q2, ?_, ?_⟩)⟩
   ·have hn : l.length - i = (l.length - i - 1) + 1 := by omega
    simp only [Builtin.clear_]
    rw [hn]
    simp only [aQ Q, cd, bK, fC, gz, hz, df]
    rw [← hn, U, hs]
    simp
   ·have L : a.toList.length = c * k := by simpa using J
    rw [cM, aH, aH, cy, dn, s, L, cP (by omega)]
    omega
   ·rw [wv _ _ _ G, oA, ct, fY, Ei hk l i G, ← q4, eJ, cP (by omega), jd]
    have L : a.toList.length = c * k := by simpa using J
    have e3 : (a.toList.take (i * k) ++ (List.replicate (l.length - i) (enc z)).flatten).length = l.length * k := by rw [aH, cy, s, L, cP (by omega)]; omega
    show List.take (l.length * k) (a.toList.take (i * k) ++ (List.replicate (l.length - i) (enc z)).flatten ++ a.toList.drop (l.length * k)) = _
    rw [eF, cX (by rw [e3]; exact bB _), e3, Nat.sub_self]
    simp
  ·have O : i = l.length := by omega
   subst O
   refine .inl ⟨_, W, j W ?_, M W _ q ?_⟩
   ·simp only [Builtin.clear_, Nat.sub_self]
    cases A' <;> simp [aQ Q]
   ·simp only [oA, List.take_length, Nat.sub_self, List.replicate_zero, cu]
    exact .inr ⟨y, c, a, rfl, rfl, Z, q2, J, q4⟩
end
end Go.Proofs.YtbnbdigcbldfhaaGreat
namespace Go.Proofs.YtbnbdigcbldfhaaGreat
open Go.RowKit
variable {dd : Bool}
section
variable {P : Program} {E : Nat → Value} {W : World} {d : Option Nat} {ty : TypeId} {pos : String} {af : Array Edge} {g : Option (Nat × Bool)}
 {F : Nat → Prop} {w : World} {μ : lm} {L : List (Nat × Obj)}
theorem QG {K : Value → World → Prop} {f : FuncId} {fv : Operand} {ax : Array Operand} {ats : Array TypeId} {args : List Value} {v : Value} (c : kG E fv = .func (.func f) #[] #[]) (ha : ax.map (kG E) ++ (#[] : Array Value) = args.toArray) (i : (callFunc f args.toArray).run P W = .ok (.value v) W) (h : K v W) : nH P E ⟨d, .call ⟨.value fv, ax, ats⟩, ty, pos, af, g⟩ W K := by
 have a : ax.map (kG E) = args.toArray := by simpa using ha
 refine .inl ⟨v, W, ?_, h⟩
 show (do let d ← resolve (kG E) ⟨.value fv, ax, ats⟩ ty; invoke d.target d.args : Sem Next).run P W = _
 simp only [resolve, c, Deferred.ofValue, cd, da, bK, invoke]
 rw [a]
 simpa using i
def zA (s : ByteArray) (c : Int) : Int := Lib.indexByte s.data.toList c.toNat.toUInt8
def oz (a b : ByteArray) : Int := Lib.compareBytes a.data.toList b.data.toList
def zI (l : List Int) : List UInt8 := l.map fun x => x.toNat.toUInt8
def AH (a b : List Int) : Int := Lib.compareBytes (zI a) (zI b)
theorem J5 {f : FuncId} {fn : Func} (g : P.funcs[f]? = some fn) (a : (fn.name == "runtime.NumGoroutine") = false) (d : fn.body.isNone = true) (h : Extern.findNext fn = none) (he : Extern.find fn = some Extern.BytealgIndexByte.indexByte) (s : ByteArray) (c : Int) (w : World) :
  (callFunc f [Value.string s, .int .u8 c].toArray).run P w = .ok (.value (.int .i64 (zA s c))) w := by
 rw [iQ g a d h he]
 rw [Lib.run_indexByteString]
 rfl
theorem SO {f : FuncId} {fn : Func} (g : P.funcs[f]? = some fn) (c : (fn.name == "runtime.NumGoroutine") = false) (d : fn.body.isNone = true) (h : Extern.findNext fn = none) (he : Extern.find fn = some Extern.BytealgCompare.compare) (a b : ByteArray) (w : World) :
  (callFunc f [Value.string a, .string b].toArray).run P w = .ok (.value (.int .i64 (oz a b))) w := by
 rw [iQ g c d h he]
 rw [Lib.run_compareString]
 rfl
theorem Gz {v : Value} {l : List Int} (h : Sl (Pl (lJ .u8)) 1 (hp W) v l) : (Extern.Bytes.bytesOf v).run P W = .ok ⟨(zI l).toArray⟩ W := by
 obtain ⟨A, c, rfl, o, q, i⟩ := h
 rcases dG l.length with a | a
 ·have : l = [] := dF.1 a
  subst this
  cases A <;> simp [Extern.Bytes.bytesOf, Extern.Bytes.loadBytes, zI] <;> rfl
 ·obtain ⟨b, off, cs, T, fr, rfl, k, m⟩ := i a
  have := Lib.run_loadBytesX (P := P) W l ⟨b, off, none⟩ .empty (fun j x n => by
   obtain ⟨ys, _, g, d⟩ := m j x n
   cases g
   rw [dm, fI W b (off + j) cs T fr k]
   have := d 0 (.int .u8 x) rfl
   simpa using this)
  simp only [Extern.Bytes.bytesOf]
  rw [this]
  congr 1
  apply jG
  show (#[] : Array UInt8) ++ _ = _
  simp [Lib.bytesOf, zI]
theorem TL {f : FuncId} {fn : Func} (j : P.funcs[f]? = some fn) (c : (fn.name == "runtime.NumGoroutine") = false) (i : fn.body.isNone = true) (k : Extern.findNext fn = none) (he : Extern.find fn = some Extern.BytealgCompare.compare) {d g : Value} {a b : List Int} (h1 : Sl (Pl (lJ .u8)) 1 (hp W) d a) (h : Sl (Pl (lJ .u8)) 1 (hp W) g b) :
  (callFunc f [d, g].toArray).run P W = .ok (.value (.int .i64 (AH a b))) W := by
 rw [iQ j c i k he]
 have : (Extern.BytealgCompare.compare [d, g].toArray).run P W = .ok (.int .i64 (AH a b)) W := by
  change Sem.run P (do pure (goInt (Extern.BytealgCompare.cmp (← Extern.Bytes.bytesOf d) (← Extern.Bytes.bytesOf g)))) W = _
  simp only [cd, Gz h1, Gz h, da, Result.andThen]
  rw [Lib.cmp_eq]
  rfl
 rw [this]
 rfl
theorem vz {fn : Fn} {caps : Array Operand} {cs : List Value} {v : Value} (a : caps.map (kG E) ++ (#[] : Array Value) = cs.toArray) (c : .func fn #[] cs.toArray = v) : mw P E ⟨d, .makeFunc fn #[] caps, ty, pos, af, g⟩ W v W := by
 have : caps.map (kG E) = cs.toArray := by simpa using a
 exact Qh (by rw [this]; simpa using c)
theorem mh.mono {f : FuncId} {args : List Value} {L0 : List (Nat × Obj)} {K K' : Value → List (Nat × Obj) → World → Prop} (h : mh dd P f args w L0 K) (hk : ∀ v L1 W', K v L1 W' → K' v L1 W') : mh dd P f args w L0 K' :=
 cH h (fun _ _ ⟨v, L1, h1, a, c⟩ => ⟨v, L1, h1, a, hk _ _ _ c⟩)
end
section
variable {α : Type}
def uv (cf : α × α → Option Int) (x y : α) : Bool := match cf (x, y) with
 | some c => decide (c < 0)
 | none => false
structure G6 (cf : α × α → Option Int) (l : List α) : Prop where
 is : ∀ x ∈ l, ∀ y ∈ l, ∃ c, cf (x, y) = some c
 irrefl : ∀ x ∈ l, uv cf x x = false
 trans : ∀ x ∈ l, ∀ y ∈ l, ∀ z ∈ l, uv cf x y = true → uv cf y z = true → uv cf x z = true
 total : ∀ x ∈ l, ∀ y ∈ l, uv cf x y = false → uv cf y x = false → x = y
 short : l.length < 4611686018427387904
def pQ (cf : α × α → Option Int) (l : List α) : List α := l.mergeSort fun x y => !uv cf y x
open Classical in
noncomputable def yA (cf : α × α → Option Int) (l : List α) : Option (List α) := if G6 cf l then some (pQ cf l) else none
theorem CQ {cf : α × α → Option Int} {l r : List α} (h : yA cf l = some r) : G6 cf l ∧ r = pQ cf l := by
 unfold yA at h
 split at h
 ·rename_i a; cases h; exact ⟨a, rfl⟩
 ·cases h
theorem Oj {cf : α × α → Option Int} {l : List α} (h : G6 cf l) : yA cf l = some (pQ cf l) := by
 unfold yA; rw [aM h]
def oV (l : List ByteArray) : List ByteArray := l.mergeSort fun x y => !qp y x
def HQ (l : List ByteArray) : Option (List ByteArray) := if l.length < 4611686018427387904 then some (oV l) else none
end
end Go.Proofs.YtbnbdigcbldfhaaGreat
namespace Go.Proofs.YtbnbdigcbldfhaaGreat
open Go.RowKit
variable {dd : Bool}
def zc {κ γ : Type} (Q : Value → γ → List (Nat × Obj) → Prop) : List (κ × Value) → List (κ × γ) → List (Nat × Obj) → Prop
 | [], [], R => R = []
 | p :: a, q :: l, R => p.1 = q.1 ∧ ∃ R1 R2, R = R1 ++ R2 ∧ Q p.2 q.2 R1 ∧ zc Q a l R2
 | _, _, _ => False
def ny {κ γ : Type} (kenc : κ → Value) (Q : Value → γ → List (Nat × Obj) → Prop) (v : Value) (d : List (κ × Value)) (l : List (κ × γ)) (R : List (Nat × Obj)) : Prop :=
 ∃ a c, R = a ++ c ∧ mu kenc (fun x => x) v d a ∧ zc Q d l c
section
variable {κ γ : Type} {Q : Value → γ → List (Nat × Obj) → Prop} {beq : κ → κ → Bool} {kenc : κ → Value}
theorem zc.keys : ∀ {a : List (κ × Value)} {l : List (κ × γ)} {R : List (Nat × Obj)}, zc Q a l R → a.map (·.1) = l.map (·.1)
 | [], [], _, _ => rfl
 | [], _ :: _, _, h => h.elim
 | _ :: _, [], _, h => h.elim
 | p :: a, q :: l, R, h => by
  obtain ⟨h1, R1, R2, _, _, c⟩ := h
  simp [h1, zc.keys c]
theorem zc.find {a : List (κ × Value)} {l : List (κ × γ)} {R : List (Nat × Obj)} (h : zc Q a l R) (k : κ) : a.findIdx? (fun p => beq k p.1) = l.findIdx? (fun p => beq k p.1) := by
 have h1 : (a.map (·.1)).findIdx? (fun x => beq k x) = (l.map (·.1)).findIdx? (fun x => beq k x) := by rw [h.keys]
 rw [gF, gF] at h1
 exact h1
theorem zc.get : ∀ {c : List (κ × Value)} {l : List (κ × γ)} {R : List (Nat × Obj)}, zc Q c l R → ∀ (i : Nat) (k : κ) (x : γ), l[i]? = some (k, x) →
  ∃ v A R1 B, c[i]? = some (k, v) ∧ R = A ++ (R1 ++ B) ∧ Q v x R1 ∧ ∀ k2 v2 x2 R2, Q v2 x2 R2 → zc Q (c.set i (k2, v2)) (l.set i (k2, x2)) (A ++ (R2 ++ B))
 | [], [], _, _, i, k, x, a => by simp at a
 | [], _ :: _, _, h, _, _, _, _ => h.elim
 | _ :: _, [], _, h, _, _, _, _ => h.elim
 | p :: c, q :: l, R, h, 0, k, x, a => by
  obtain ⟨h1, R1, R2, rfl, d, g⟩ := h
  simp at a
  subst a
  refine ⟨p.2, [], R1, R2, by simp only [gz]; exact aV some (Prod.ext h1 rfl), rfl, d, fun k2 v2 x2 R2' j => ⟨rfl, R2', R2, rfl, j, g⟩⟩
 | p :: c, q :: l, R, h, i + 1, k, x, a => by
  obtain ⟨h1, R1, R2, rfl, d, g⟩ := h
  simp at a
  obtain ⟨v, A, R1', B, g1, rfl, g3, g4⟩ := zc.get g i k x a
  exact ⟨v, R1 ++ A, R1', B, by simpa using g1, by simp, g3, fun k2 v2 x2 R2' j => ⟨h1, R1, A ++ (R2' ++ B), by simp, d, g4 k2 v2 x2 R2' j⟩⟩
theorem zc.push : ∀ {c : List (κ × Value)} {l : List (κ × γ)} {R : List (Nat × Obj)}, zc Q c l R → ∀ (k : κ) {v : Value} {x : γ} {R1 : List (Nat × Obj)}, Q v x R1 → zc Q (c ++ [(k, v)]) (l ++ [(k, x)]) (R ++ R1)
 | [], [], _, h, k, v, x, R1, a => by
  have i : _ = [] := h
  subst i
  exact ⟨rfl, R1, [], by simp, a, rfl⟩
 | [], _ :: _, _, h, _, _, _, _, _ => h.elim
 | _ :: _, [], _, h, _, _, _, _, _ => h.elim
 | p :: c, q :: l, R, h, k, v, x, R1, a => by
  obtain ⟨h1, d, g, rfl, j, m⟩ := h
  exact ⟨h1, d, g ++ R1, by simp, j, zc.push m k a⟩
theorem ny.found {t : Value} {d : List (κ × Value)} {l : List (κ × γ)} {R : List (Nat × Obj)} (hk : ∀ {x y : κ}, beq x y = true → x = y) (h : ny kenc Q t d l R) {k : κ} {x : γ} (c : mi beq l k = some x) :
  ∃ v A R1 B, mi beq d k = some v ∧ R = A ++ (R1 ++ B) ∧ Q v x R1 ∧ (∀ x2 R2, Q v x2 R2 → ny kenc Q t d (oh beq l k x2) (A ++ (R2 ++ B))) := by
 obtain ⟨q, D, rfl, u, s⟩ := h
 rw [Aw] at c
 cases g : l.findIdx? (fun p => beq k p.1) with
 | none => rw [g] at c; cases c
 | some i =>
  rw [g] at c
  obtain ⟨p, hp, w⟩ := tZ g
  simp only [aA, hp, dz, gG] at c
  subst c
  have o := hk w
  obtain ⟨v, A, R1, B, g1, rfl, g3, g4⟩ := s.get i p.1 p.2 hp
  have m : d.findIdx? (fun p => beq k p.1) = some i := by rw [s.find k, g]
  refine ⟨v, q ++ A, R1, B, by rw [Aw, m]; simp [g1], by simp, g3, fun x2 R2 z => ⟨q, A ++ (R2 ++ B), by simp, u, ?_⟩⟩
  have a := g4 k v x2 R2 z
  have e : d.set i (k, v) = d := by
   apply dC
   intro j
   rw [eS]
   split
   ·rename_i n
    subst n
    rw [g1, o]
    simp [(bA.1 g1).1]
   ·rfl
  rw [e] at a
  rw [oh, g]
  exact a
theorem ny.Qy {j : Value} {d : List (κ × Value)} {l : List (κ × γ)} {R : List (Nat × Obj)} (h : ny kenc Q j d l R) {k : κ} (a : mi beq l k = none) : mi beq d k = none := by
 obtain ⟨m, n, rfl, o, g⟩ := h
 rw [Aw] at a ⊢
 rw [g.find k]
 cases c : l.findIdx? (fun p => beq k p.1) with
 | none => rfl
 | some i =>
  rw [c] at a
  obtain ⟨p, hp, q⟩ := tZ c
  simp [hp] at a
def sU (beq : κ → κ → Bool) (a : List (κ × Value)) (k : κ) (z : Value) : Value := (mi beq a k).getD z
variable {P : Program} {W : World} {kt : TypeId} {E : Nat → Value} {d : Option Nat} {ty : TypeId} {pos : String} {af : Array Edge} {g : Option (Nat × Bool)} {F : Nat → Prop} {w : World} {μ : lm} {L : List (Nat × Obj)}
theorem pZ {t e : TypeId} {m x : Operand} {c z : Value} {a : List (κ × Value)} {l : List (κ × γ)} {R : List (Nat × Obj)} {k : κ} (K : px P kt kenc beq) (s : P.underlying t = some (.map kt e)) (v : ∀ w, (zeroValue e).run P w = .ok z w) (hm : kG E m = c) (u : kG E x = kenc k) (n : ny kenc Q c a l R) (q : ∀ b o, (b, o) ∈ R → W.heap[b]? = some o) : mw P E ⟨d, .lookup t m x false, ty, pos, af, g⟩ W (sU beq a k z) W := by
 obtain ⟨y, A, rfl, i, D⟩ := n
 have j := MQ (d := d) (ty := ty) (pos := pos) (af := af) (g := g) K s v hm u (i.at (μ := hp W) (fun b o h => q b o (bI _ h)))
 simpa [sU] using j
variable {κ2 β : Type} {kenc2 : κ2 → Value} {vf : β → Value} {beq2 : κ2 → κ2 → Bool} {kt2 : TypeId}
theorem ny.F3 {i : Value} {c : List (κ × Value)} {l : List (κ × List (κ2 × β))} {R : List (Nat × Obj)} (hk : ∀ {x y : κ}, beq x y = true → x = y) (h : ny kenc (mu kenc2 vf) i c l R) (k : κ) {μ : lm} (d : ∀ b o, (b, o) ∈ R → μ b = some o) :
  xk kenc2 vf μ (sU beq c k (.map none)) ((mi beq l k).getD []) := by
 cases a : mi beq l k with
 | none => rw [sU, h.Qy a]; exact .inl ⟨rfl, rfl⟩
 | some x =>
  obtain ⟨v, A, R1, B, g1, rfl, g3, _⟩ := h.found hk a
  rw [sU, g1]
  exact g3.at (fun b o g => d b o (by simp [g]))
theorem ny.isNil {d : Value} {c : List (κ × Value)} {l : List (κ × List (κ2 × β))} {R : List (Nat × Obj)} (hk : ∀ {x y : κ}, beq x y = true → x = y) (h : ny kenc (mu kenc2 vf) d c l R) (k : κ) :
  ∃ r, sU beq c k (.map none) = .map r ∧ r.isNone = (mi beq l k).isNone := by
 cases a : mi beq l k with
 | none => rw [sU, h.Qy a]; exact ⟨none, rfl, rfl⟩
 | some x =>
  obtain ⟨v, A, R1, B, g1, rfl, g3, _⟩ := h.found hk a
  obtain ⟨m, es, clock, rfl, _⟩ := g3
  rw [sU, g1]
  exact ⟨_, rfl, rfl⟩
def IE {κ κ2 β : Type} (beq : κ → κ → Bool) (beq2 : κ2 → κ2 → Bool) (l : List (κ × List (κ2 × β))) (k : κ) (k2 : κ2) (x : β) : Option (List (κ × List (κ2 × β))) := (mi beq l k).map fun a => oh beq l k (oh beq2 a k2 x)
def I2 {κ γ : Type} (beq : κ → κ → Bool) (l : List (κ × γ)) (k : κ) (x : γ) : Option (List (κ × γ)) := if (mi beq l k).isNone then some (oh beq l k x) else none
theorem SD {q : Value → World → Prop} (X : List (Nat × Obj)) {Y R : List (Nat × Obj)} {t e : TypeId} {m x y : Operand} {z : Value} {o : List (κ × Value)} {l s : List (κ × List (κ2 × β))} {k : κ} {k2 : κ2} {v : β} (hk : ∀ {x y : κ}, beq x y = true → x = y) (K : px P kt2 kenc2 beq2) (I : P.underlying t = some (.map kt2 e)) (i : ST dd F w W μ (X ++ (R ++ Y))) (h : ny kenc (mu kenc2 vf) z o l R) (hm : kG E m = sU beq o k (.map none)) (J : kG E x = kenc2 k2) (L : kG E y = vf v) (c : IE beq beq2 l k k2 v = some s) (G : ∀ W' R', ST dd F w W' μ (X ++ (R' ++ Y)) → ny kenc (mu kenc2 vf) z o s R' → q undef W') : nH P E ⟨d, .mapUpdate t m x y, ty, pos, af, g⟩ W q := by
 unfold IE at c
 cases j : mi beq l k with
 | none => rw [j] at c; cases c
 | some M =>
  rw [j] at c
  cases c
  obtain ⟨u, A, R1, B, g1, rfl, g3, g4⟩ := h.found hk j
  have n : kG E m = u := by rw [hm, sU, g1]; rfl
  have a : ST dd F w W μ ((X ++ A) ++ (R1 ++ (B ++ Y))) := by simpa using i
  refine BO (X ++ A) K I a g3 n J L (fun W' R' h1 D => G W' (A ++ (R' ++ B)) ?_ (g4 _ _ D))
  simpa using h1
theorem Ru {D : Value → World → Prop} (X : List (Nat × Obj)) {Y R R2 : List (Nat × Obj)} {t e : TypeId} {m x y : Operand} {A : Value} {v : List (κ × Value)} {l J : List (κ × γ)} {k : κ} {u : Value} {z : γ} (K : px P kt kenc beq) (ht : P.underlying t = some (.map kt e)) (s : ST dd F w W μ (X ++ (R ++ (R2 ++ Y)))) (h : ny kenc Q A v l R) (hm : kG E m = A) (hx : kG E x = kenc k) (hy : kG E y = u) (hq : Q u z R2) (c : I2 beq l k z = some J) (U : ∀ W' R', ST dd F w W' μ (X ++ (R' ++ Y)) → ny kenc Q A (oh beq v k u) J R' → D undef W') : nH P E ⟨d, .mapUpdate t m x y, ty, pos, af, g⟩ W D := by
 unfold I2 at c
 cases n : mi beq l k with
 | some l2 => rw [n] at c; cases c
 | none =>
  rw [n] at c
  simp only [Option.isNone_none, bc, gG] at c
  subst c
  have Z := h.Qy n
  obtain ⟨M, o, rfl, O, T⟩ := h
  have j : ST dd F w W μ (X ++ (M ++ (o ++ (R2 ++ Y)))) := by simpa using s
  refine BO X K ht j O hm hx hy (fun W' R' g1 g2 => U W' (R' ++ (o ++ R2)) (by simpa using g1) ⟨R', o ++ R2, rfl, g2, ?_⟩)
  have G : ∀ {L : Type} (q : List (κ × L)) (y : L), mi beq q k = none → oh beq q k y = q ++ [(k, y)] := fun q y a => by
   rw [Aw] at a
   rw [oh]
   cases I : q.findIdx? (fun p => beq k p.1) with
   | none => rfl
   | some i =>
    obtain ⟨p, hp, _⟩ := tZ I
    rw [I] at a
    simp [hp] at a
  rw [G v u Z, G l z n]
  exact T.push k hq
end
end Go.Proofs.YtbnbdigcbldfhaaGreat
namespace Go.Proofs.YtbnbdigcbldfhaaGreat
open Go.RowKit
variable {dd : Bool}
section
variable {κ γ : Type} {Q : Value → γ → List (Nat × Obj) → Prop} {beq : κ → κ → Bool} {kenc : κ → Value}
theorem sx {a : Type} {l : List (κ × a)} {k : κ} {i : Nat} (h : l.findIdx? (fun p => beq k p.1) = some i) (x : a) : oh beq l k x = l.set i (k, x) := by rw [oh, h]
theorem xD {a : Type} {l : List (κ × a)} {k : κ} (h : l.findIdx? (fun p => beq k p.1) = none) (x : a) : oh beq l k x = l ++ [(k, x)] := by rw [oh, h]
theorem GU {a : Type} {l : List (κ × a)} {k : κ} (h : l.findIdx? (fun p => beq k p.1) = none) : mi beq l k = none := by rw [Aw, h]; rfl
theorem F2 {a : Type} {l : List (κ × a)} {k : κ} {i : Nat} {p : κ × a} (h : l.findIdx? (fun p => beq k p.1) = some i) (hp : l[i]? = some p) : mi beq l k = some p.2 := by rw [Aw, h]; simp [hp]
def QX (beq : κ → κ → Bool) (kenc : κ → Value) (Q : Value → γ → List (Nat × Obj) → Prop) (d : Value) (c : List (κ × Value)) (l : List (κ × γ)) (k : κ) (R : List (Nat × Obj)) : Prop :=
 ∃ a A B, R = a ++ (A ++ B) ∧ mu kenc (fun x => x) d c a ∧ ∀ v x R1, Q v x R1 → zc Q (oh beq c k v) (oh beq l k x) (A ++ (R1 ++ B))
theorem ny.open (hk : ∀ {x y : κ}, beq x y = true → x = y) {s z : Value} {x0 : γ} (m : Q z x0 []) {n : List (κ × Value)} {l : List (κ × γ)} {R : List (Nat × Obj)} (h : ny kenc Q s n l R) (k : κ) :
  ∃ R' R1, R.Perm (R' ++ R1) ∧ Q (sU beq n k z) ((mi beq l k).getD x0) R1 ∧ QX beq kenc Q s n l k R' := by
 obtain ⟨d, o, rfl, q, g⟩ := h
 have c := g.find (beq := beq) k
 cases a : l.findIdx? (fun p => beq k p.1) with
 | none =>
  rw [a] at c
  refine ⟨d ++ o, [], by simp, ?_, d, o, [], by simp, q, fun v x R1 j => ?_⟩
  ·rw [sU, GU a, GU c]; exact m
  ·rw [xD a, xD c]; simpa using g.push k j
 | some i =>
  rw [a] at c
  obtain ⟨p, hp, t⟩ := tZ a
  have u := hk t
  obtain ⟨v, A, R1, B, g1, rfl, g3, g4⟩ := g.get i p.1 p.2 hp
  refine ⟨d ++ (A ++ B), R1, ?_, ?_, d, A, B, rfl, q, fun v2 x2 R2 j => ?_⟩
  ·rw [aT, aT]
   refine cL _ (cL _ dL)
  ·rw [sU, F2 a hp, F2 c g1]; exact g3
  ·rw [sx a, sx c]; exact g4 k v2 x2 R2 j
variable {P : Program} {W : World} {kt : TypeId} {E : Nat → Value} {d : Option Nat} {ty : TypeId} {pos : String} {af : Array Edge} {g : Option (Nat × Bool)} {F : Nat → Prop} {w : World} {μ : lm} {L : List (Nat × Obj)}
theorem Xp {j : Value → World → Prop} (X : List (Nat × Obj)) {Y R R1 : List (Nat × Obj)} {t e : TypeId} {m x y : Operand} {i : Value} {n : List (κ × Value)} {l : List (κ × γ)} {k : κ} {u : Value} {z : γ} (K : px P kt kenc beq) (G : P.underlying t = some (.map kt e)) (c : ST dd F w W μ (X ++ (R ++ (R1 ++ Y)))) (h : QX beq kenc Q i n l k R) (hm : kG E m = i) (I : kG E x = kenc k) (J : kG E y = u) (D : Q u z R1) (v : ∀ W' R', ST dd F w W' μ (X ++ (R' ++ Y)) → ny kenc Q i (oh beq n k u) (oh beq l k z) R' → j undef W') : nH P E ⟨d, .mapUpdate t m x y, ty, pos, af, g⟩ W j := by
 obtain ⟨o, A, B, rfl, q, s⟩ := h
 have a : ST dd F w W μ (X ++ (o ++ (A ++ (B ++ (R1 ++ Y))))) := by simpa using c
 refine BO X K G a q hm I J (fun W' R' g1 g2 => v W' (R' ++ (A ++ (R1 ++ B))) ?_ ⟨R', A ++ (R1 ++ B), rfl, g2, s u z R1 D⟩)
 refine g1.perm ?_
 simp only [aT]
 refine cL _ (cL _ (cL _ ?_))
 rw [← aT, ← aT]
 exact gH _ dL
def Mv (beq : κ → κ → Bool) (kenc : κ → Value) (Q : Value → γ → List (Nat × Obj) → Prop) (c : Value) (l : List (κ × γ)) (k : κ) (st : Nat) (R : List (Nat × Obj)) : Prop :=
 ∃ m es clock a A B i e, c = .map (some m) ∧ R = (m, .map es clock) :: (A ++ B) ∧ xj kenc (fun x => x) a es clock ∧ es[i]? = some e ∧ e.born = st ∧ a.findIdx? (fun p => beq k p.1) = some i ∧
  ∀ v x R1, Q v x R1 → zc Q (oh beq a k v) (oh beq l k x) (A ++ (R1 ++ B))
theorem KN {g : Type} (hk : ∀ x : κ, beq x x = true) (d : List (κ × g)) (k : κ) (a b : g) : oh beq (oh beq d k a) k b = oh beq d k b := by
 cases c : d.findIdx? (fun p => beq k p.1) with
 | none =>
  have h1 : (d ++ [(k, a)]).findIdx? (fun p => beq k p.1) = some d.length := by
   rw [iH, c]
   simp [eK, hk]
  rw [xD c, xD c, sx h1]
  simp
 | some i =>
  obtain ⟨p, hp, o⟩ := tZ c
  have h1 : (d.set i (k, a)).findIdx? (fun p => beq k p.1) = some i := by
   rw [dP] at c ⊢
   obtain ⟨h1, n, h⟩ := c
   refine ⟨by simpa using h1, by simp [hk], fun j m => ?_⟩
   rw [List.getElem_set_ne (by omega)]
   exact h j m
  rw [sx c, sx c, sx h1]
  simp
end
end Go.Proofs.YtbnbdigcbldfhaaGreat
namespace Go.Proofs.YtbnbdigcbldfhaaGreat
open Go.RowKit
variable {dd : Bool}
section
variable {κ γ : Type} {Q : Value → γ → List (Nat × Obj) → Prop} {beq : κ → κ → Bool} {kenc : κ → Value}
variable {P : Program} {W : World} {kt : TypeId} {E : Nat → Value} {d : Option Nat} {ty : TypeId} {pos : String} {af : Array Edge} {g : Option (Nat × Bool)} {F : Nat → Prop} {w : World} {μ : lm} {L : List (Nat × Obj)}
theorem GX {es : Array MapEntry} {i : Nat} {f c : MapEntry → MapEntry} (h : ∀ e, es[i]? = some e → f e = c e) : es.modify i f = es.modify i c := by
 apply Array.ext_getElem?
 intro j
 rw [dK, dK]
 split
 ·rename_i a
  subst a
  cases he : es[i]? with
  | none => rfl
  | some e => simp [h e he]
 ·rfl
theorem xj.val {c : List (κ × Value)} {es : Array MapEntry} {clock : Nat} (h : xj kenc (fun x => x) c es clock) {i : Nat} {e : MapEntry} (he : es[i]? = some e) : ∃ p, c[i]? = some p ∧ e.key = kenc p.1 ∧ e.val = p.2 := by
 have a := aV (fun q => q[i]?) h.HZ
 simp only [du, de, he, dz] at a
 cases hp : c[i]? with
 | none => rw [hp] at a; cases a
 | some p =>
  rw [hp] at a
  simp only [dz, gG, Prod.mk.injEq] at a
  exact ⟨p, rfl, a.1, a.2⟩
theorem QM {Kk : Value → World → Prop} (X : List (Nat × Obj)) {Y R : List (Nat × Obj)} {t e : TypeId} {m x : Operand} {mv z : Value} {x0 : γ} {lv : List (κ × Value)} {l : List (κ × γ)} {k : κ} (hk : ∀ {x y : κ}, beq x y = true ↔ x = y) (K : px P kt kenc beq) (ht : P.underlying t = some (.map kt e)) (hz : ∀ w, (zeroValue e).run P w = .ok z w) (ad : Q z x0 []) (T : ST dd F w W μ (X ++ (R ++ Y))) (h : ny kenc Q mv lv l R) (hm : kG E m = mv) (hx : kG E x = kenc k) (hK : ∀ W' v st R' R1, ST dd F w W' μ (X ++ (R' ++ (R1 ++ Y))) → Q v ((mi beq l k).getD x0) R1 → Mv beq kenc Q mv l k st R' → Kk (.tuple #[v, .int .i64 (st : Nat)]) W') : nH P E ⟨d, .mapEntry t m x, ty, pos, af, g⟩ W Kk := by
 obtain ⟨Rm, Rv, rfl, ⟨o, es, clock, rfl, rfl, s⟩, O⟩ := h
 have hb : W.heap[o]? = some (.map es clock) := (T.box o (.map es clock) (by simp)).1
 have h5 : (getObj o : Sem Obj).run P W = .ok (.map es clock) W := by simp [getObj, Sem.run, hb]
 have L := K.find k _ _ s.keys W
 rw [s.get k] at L
 have G := O.find (beq := beq) k
 have D : ∀ W' v, (Instr.mapEntry t (.map (some o)) (kenc k)).run P W = .ok v W' → (execOp (kG E) ⟨d, .mapEntry t m x, ty, pos, af, g⟩).run P W = .ok (.value v) W' := by
  intro W' v hr
  show (do pure (.value (← Instr.mapEntry t (kG E m) (kG E x))) : Sem Next).run P W = _
  rw [hm, hx]
  simp [hr]
 have u : ST dd F w W μ (X ++ (o, .map es clock) :: (Rv ++ Y)) := by simpa using T
 cases c : lv.findIdx? (fun p => beq k p.1) with
 | none =>
  rw [c] at L G
  have a := s.put (beq := beq) k z
  rw [c] at a
  refine .inl ⟨_, ChangeMaps.setBlock W o (.map (es.push { key := kenc k, val := z, born := clock }) (clock + 1)), D _ (.tuple #[z, .int .i64 (clock : Nat)]) ?_, hK _ z clock ((o, .map (es.push { key := kenc k, val := z, born := clock }) (clock + 1)) :: (Rv ++ [])) [] ?_ ?_ ?_⟩
  ·simp [Instr.mapEntry, aQ ht, h5, K.check, L, AR hb, hz _, goInt]
  ·have := u.setBlock (.map (es.push { key := kenc k, val := z, born := clock }) (clock + 1))
   simpa using this
  ·rw [GU G.symm]; exact ad
  ·refine ⟨o, _, _, lv ++ [(k, z)], Rv, [], es.size, { key := kenc k, val := z, born := clock }, rfl, rfl, a, by simp, rfl, ?_, fun v x R1 hq => ?_⟩
   ·rw [iH, c]
    have aa := s.length
    simp [eK, hk, aa]
   ·rw [← xD c, KN (fun x => hk.2 rfl), xD c, xD G.symm]
    simpa using O.push k hq
 | some i =>
  rw [c] at L G
  obtain ⟨p, hp, ab⟩ := tZ c
  obtain ⟨q, a8, U⟩ := tZ G.symm
  have ag := hk.1 U
  obtain ⟨v, A, R1, B, g1, rfl, g3, g4⟩ := O.get i q.1 q.2 a8
  have a7 : p.2 = v := by rw [g1] at hp; cases hp; rfl
  have aa := s.length
  have ae : i < lv.length := (bA.1 hp).1
  obtain ⟨M, n⟩ : ∃ M, es[i]? = some M := ⟨es[i], eP (by omega)⟩
  obtain ⟨p', a6, I, J⟩ := s.val n
  rw [hp] at a6
  cases a6
  simp only [aA, hp, dz] at L
  have a := s.put (beq := beq) k v
  rw [c] at a
  have Z : ((es[i]?).map (·.key)).getD (kenc k) = kenc k := by
   rw [n]
   simp only [dz, iu, I]
   exact K.eq k p.1 ab
  have a1 : es.modify i (fun e => { e with key := kenc k }) = es.modify i (fun e => { e with key := kenc k, val := v }) := GX fun e he => by
   rw [n] at he; cases he
   rw [← a7, ← J]
  refine .inl ⟨_, ChangeMaps.setBlock W o (.map (es.modify i fun e => { e with key := kenc k, val := v }) clock), D _ (.tuple #[v, .int .i64 (M.born : Nat)]) ?_, hK _ v M.born ((o, .map (es.modify i fun e => { e with key := kenc k, val := v }) clock) :: (A ++ B)) R1 ?_ ?_ ?_⟩
  ·simp only [Instr.mapEntry, cd, aQ ht, h5, K.check, L, bK, Z, Instr.keyThatStays, K.bits, bc, da]
   rw [AR hb, a1]
   simp [n, goInt, a7]
  ·have := u.setBlock (.map (es.modify i fun e => { e with key := kenc k, val := v }) clock)
   refine this.perm ?_
   simp only [aT, cE]
   refine cL _ (List.Perm.cons _ (cL _ ?_))
   rw [← aT, ← aT]
   exact gH _ dL
  ·rw [F2 G.symm a8]; exact g3
  ·refine ⟨o, _, _, lv.set i (k, v), A, B, i, { M with key := kenc k, val := v }, rfl, rfl, a, ?_, rfl, ?_, fun v2 x2 R2 hq => ?_⟩
   ·rw [dK, aM rfl, n]; rfl
   ·rw [dP] at c ⊢
    obtain ⟨h1, s, O⟩ := c
    refine ⟨by simpa using h1, by simp [hk], fun j hj => ?_⟩
    rw [List.getElem_set_ne (by omega)]
    exact O j hj
   ·rw [← sx c, KN (fun x => hk.2 rfl), sx c, sx G.symm]
    exact g4 k v2 x2 R2 hq
theorem R7 {es : Array MapEntry} (h : es.toList.Pairwise (fun a b => a.born < b.born)) {i : Nat} {e : MapEntry} (he : es[i]? = some e) : es.findIdx? (fun a => (a.born : Int) == (e.born : Int)) = some i := by
 rw [Array.findIdx?_eq_some_iff_getElem]
 obtain ⟨d, c⟩ := cJ.1 he
 refine ⟨d, by rw [c]; simp, fun j g => ?_⟩
 have := fU.1 h j i (by simpa using Nat.lt_trans g d) (by simpa using d) g
 simp only [Array.getElem_toList] at this
 rw [c] at this
 simp
 omega
theorem Og {Kk : Value → World → Prop} (X : List (Nat × Obj)) {Y R R1 : List (Nat × Obj)} {t e : TypeId} {m s y : Operand} {Z u : Value} {z : γ} {l : List (κ × γ)} {k : κ} {st : Nat} (hk : ∀ {x y : κ}, beq x y = true ↔ x = y) (K : px P kt kenc beq) (q : ST dd F w W μ (X ++ (R ++ (R1 ++ Y)))) (h : Mv beq kenc Q Z l k st R) (hm : kG E m = Z) (hs : kG E s = .int .i64 (st : Nat)) (hy : kG E y = u) (hq : Q u z R1) (hK : ∀ W' U R', ST dd F w W' μ (X ++ (R' ++ Y)) → ny kenc Q Z U (oh beq l k z) R' → Kk undef W') : nH P E ⟨d, .entryStore t m s y, ty, pos, af, g⟩ W Kk := by
 obtain ⟨c, es, clock, lv, A, B, i, en, rfl, rfl, L, n, j, O, h3⟩ := h
 have hb : W.heap[c]? = some (.map es clock) := (q.box c (.map es clock) (by simp)).1
 have h5 : (getObj c : Sem Obj).run P W = .ok (.map es clock) W := by simp [getObj, Sem.run, hb]
 obtain ⟨p, hp, M⟩ := tZ O
 obtain ⟨p', J, o, T⟩ := L.val n
 rw [hp] at J
 cases J
 have a := L.put (beq := beq) k u
 rw [O] at a
 have I : es.modify i (fun e => { e with val := u }) = es.modify i (fun e => { e with key := kenc k, val := u }) := GX fun e he => by
  rw [n] at he; cases he
  have D : en.key = kenc k := by rw [o]; exact K.eq k p.1 M
  rw [← D]
 have G := R7 L.born n
 rw [j] at G
 have v : ST dd F w W μ (X ++ (c, .map es clock) :: (A ++ (B ++ (R1 ++ Y)))) := by simpa using q
 refine .inr (.inl ⟨ChangeMaps.setBlock W c (.map (es.modify i fun e => { e with key := kenc k, val := u }) clock), ?_, hK _ (oh beq lv k u) ((c, .map (es.modify i fun e => { e with key := kenc k, val := u }) clock) :: (A ++ (R1 ++ B))) ?_ ⟨[(c, .map (es.modify i fun e => { e with key := kenc k, val := u }) clock)], A ++ (R1 ++ B), rfl, ⟨c, _, _, rfl, rfl, ?_⟩, h3 u z R1 hq⟩⟩)
 ·show (do Instr.entryStore t (kG E m) (kG E s) (kG E y); pure .skip : Sem Next).run P W = _
  rw [hm, hs, hy]
  simp only [Instr.entryStore, cd, h5, bK, asInt, asIntOf, da, G]
  rw [AR hb, I]
  rfl
 ·have := v.setBlock (.map (es.modify i fun e => { e with key := kenc k, val := u }) clock)
  refine this.perm ?_
  simp only [aT, cE]
  refine cL _ (List.Perm.cons _ (cL _ ?_))
  rw [← aT, ← aT]
  exact gH _ dL
 ·rw [sx O]; exact a
end
end Go.Proofs.YtbnbdigcbldfhaaGreat
namespace Go.Proofs.YtbnbdigcbldfhaaGreat
open Go.RowKit
variable {dd : Bool}
section
variable {κ γ : Type} {Q : Value → γ → List (Nat × Obj) → Prop} {beq : κ → κ → Bool} {kenc : κ → Value}
def mR (kenc : κ → Value) (Q : Value → γ → List (Nat × Obj) → Prop) (v : Value) (l : List (κ × γ)) (R : List (Nat × Obj)) : Prop := ∃ a, ny kenc Q v a l R
def uj (kenc : κ → Value) (Q : Value → γ → List (Nat × Obj) → Prop) (μ : lm) (v : Value) (l : List (κ × γ)) : Prop := ∃ a R, ny kenc Q v a l R ∧ ∀ b o, (b, o) ∈ R → μ b = some o
theorem mR.at {v : Value} {l : List (κ × γ)} {R : List (Nat × Obj)} {μ : lm} (h : mR kenc Q v l R) (a : ∀ b o, (b, o) ∈ R → μ b = some o) : uj kenc Q μ v l := let ⟨c, h⟩ := h; ⟨c, R, h, a⟩
theorem uj.mono {v : Value} {l : List (κ × γ)} {μ μ' : lm} (h : uj kenc Q μ v l) (d : kY μ μ') : uj kenc Q μ' v l := let ⟨g, R, h, a⟩ := h; ⟨g, R, h, fun b o c => d _ _ (a b o c)⟩
theorem ny.form {v : Value} {a : List (κ × Value)} {l : List (κ × γ)} {R : List (Nat × Obj)} (h : ny kenc Q v a l R) : ∃ m, v = .map (some m) := let ⟨_, _, _, h, _⟩ := h; h.form
theorem ny.e {v : Value} {a : List (κ × Value)} {l : List (κ × γ)} {R : List (Nat × Obj)} (h : ny kenc Q v a l R) : mR kenc Q v l R := ⟨a, h⟩
theorem mR.form {v : Value} {l : List (κ × γ)} {R : List (Nat × Obj)} (h : mR kenc Q v l R) : ∃ m, v = .map (some m) := let ⟨_, h⟩ := h; h.form
theorem mR.new {v : Value} {R : List (Nat × Obj)} (h : mu (β := Value) kenc (fun x => x) v [] R) : mR kenc Q v [] R := ⟨[], R, [], (cu R).symm, h, rfl⟩
theorem ny.rowAt {α : Type} {e : TypeId} {enc : α → List Value} {n : Nat} {g : Value} {c : List (κ × Value)} {l : List (κ × List α)} {R : List (Nat × Obj)} (hk : ∀ {x y : κ}, beq x y = true → x = y) (h : ny kenc (kU e enc n) g c l R) (k : κ) :
  ∃ R1, kU e enc n (sU beq c k (.slice none 0 0)) ((mi beq l k).getD []) R1 ∧ ∀ b o, (b, o) ∈ R1 → (b, o) ∈ R := by
 cases a : mi beq l k with
 | none => refine ⟨[], ?_, fun b o h => by cases h⟩; rw [sU, h.Qy a]; exact .inl ⟨rfl, rfl, rfl⟩
 | some x =>
  obtain ⟨v, A, R1, B, g1, rfl, g3, _⟩ := h.found hk a
  refine ⟨R1, ?_, fun b o d => by simp [d]⟩
  rw [sU, g1]; exact g3
theorem kU.Hd {α : Type} {e : TypeId} {enc : α → List Value} {k : Nat} {v : Value} {l : List α} {R : List (Nat × Obj)} (h : kU e enc k v l R) (hk : ∀ x, (enc x).length = k) : Sl (Pl enc) k (Cu R) v l := by
 refine h.sl hk (fun b o a => ?_)
 rcases h with ⟨rfl, rfl, rfl⟩ | ⟨g, cap, c, rfl, rfl, _⟩
 ·cases a
 ·simp at a; obtain ⟨rfl, rfl⟩ := a; simp [Cu]
end
theorem rR.hp (W : World) : rR (hp W) [] W := ⟨fun _ _ h => h, fun _ _ h => by cases h⟩
section
variable {P : Program} {W : World} {E : Nat → Value} {d : Option Nat} {ty : TypeId} {pos : String} {af : Array Edge} {g : Option (Nat × Bool)} {F : Nat → Prop} {w : World} {μ : lm} {L : List (Nat × Obj)}
theorem J0 {t k e : TypeId} (dd : Nat) (c : P.underlying t = some (.map k e)) (a : Option Nat) (W : World) : (Op.equalIn (dd + 1) t (.map a) (.map none)).run P W = .ok a.isNone W := by
 cases a <;> simp [Op.equalIn, aQ c]
theorem QZ {tx tv k e : TypeId} {x y : Operand} {r : Option Nat} {b : Bool} (h : P.underlying tx = some (.map k e)) (i : kG E x = .map r) (j : kG E y = .map none) (c : r.isNone = b) :
  mw P E ⟨d, .binOp .eql tx x y tv, ty, pos, af, g⟩ W (.bool b) W := by
 subst c
 show (do let r ← (do eqGuard .eql tx x y (kG E x) (kG E y); binOp .eql tx (kG E x) (kG E y)); pure (.value r) : Sem Next).run P W = _
 rw [i, j]
 have a := J0 9999 h r W
 simp [eqGuard, binOp, Op.equal, show Op.maxDepth = 9999 + 1 from rfl, a]
theorem OK {κ κ2 β : Type} {kenc : κ → Value} {kenc2 : κ2 → Value} {vf : β → Value} {beq : κ → κ → Bool} {tx tv kt e : TypeId} {x y : Operand} {n : Value} {a : List (κ × Value)} {l : List (κ × List (κ2 × β))} {R : List (Nat × Obj)} {k : κ} (hk : ∀ {x y : κ}, beq x y = true → x = y) (i : P.underlying tx = some (.map kt e)) (h : ny kenc (mu kenc2 vf) n a l R) (j : kG E x = sU beq a k (.map none)) (m : kG E y = .map none) :
  mw P E ⟨d, .binOp .eql tx x y tv, ty, pos, af, g⟩ W (.bool (mi beq l k).isNone) W := by
 obtain ⟨r, h1, c⟩ := h.isNil hk k
 exact QZ i (j.trans h1) m c
theorem FJ {κ γ : Type} {c : Value → World → Prop} {t : TypeId} (kenc : κ → Value) (Q : Value → γ → List (Nat × Obj) → Prop) (a : ST dd F w W μ L) (i : ∀ W' v R, ST dd F w W' μ (R ++ L) → mR kenc Q v [] R → c v W') : nH P E ⟨d, .makeMap t none, ty, pos, af, g⟩ W c :=
 D9 kenc (fun x : Value => x) a (fun W' v R h1 h => i W' v R h1 (mR.new h))
end
def qL {α : Type} (e : TypeId) (enc : α → List Value) (k : Nat) (v : Value) (l : List α) (R : List (Nat × Obj)) : Prop :=
 (v = .slice none 0 0 ∧ l = [] ∧ R = []) ∨
 ∃ g off cap a, v = .slice (some ⟨g, off, none⟩) l.length cap ∧ R = [(g, .cells a e (0, 0))] ∧ l.length ≤ cap ∧ cap ≤ maxLen ∧ off + cap * k ≤ a.size ∧ (a.toList.drop off).take (l.length * k) = (l.map enc).flatten
section
variable {α : Type} {e : TypeId} {enc : α → List Value} {k : Nat} {v : Value} {l : List α} {R : List (Nat × Obj)}
theorem qL.nil (e : TypeId) (enc : α → List Value) (k : Nat) : qL e enc k (.slice none 0 0) [] [] := .inl ⟨rfl, rfl, rfl⟩
theorem kU.Yt (h : kU e enc k v l R) : qL e enc k v l R := by
 rcases h with h | ⟨g, cap, a, h1, c, d, i, m, j⟩
 ·exact .inl h
 ·exact .inr ⟨g, 0, cap, a, h1, c, d, i, by omega, by simpa using j⟩
theorem qL.len (h : qL e enc k v l R) : l.length ≤ 9223372036854775807 := by
 rcases h with ⟨rfl, rfl, rfl⟩ | ⟨g, off, cap, a, rfl, rfl, h1, c, _⟩
 ·simp
 ·unfold maxLen at c; omega
theorem qL.form (h : qL e enc k v l R) : ∃ A c, v = .slice A l.length c := by
 rcases h with ⟨rfl, rfl, rfl⟩ | ⟨g, off, cap, a, rfl, rfl, _⟩
 ·exact ⟨_, _, rfl⟩
 ·exact ⟨_, _, rfl⟩
theorem qL.Hd (h : qL e enc k v l R) (hk : ∀ x, (enc x).length = k) : Sl (Pl enc) k (Cu R) v l := by
 rcases h with ⟨rfl, rfl, rfl⟩ | ⟨g, off, cap, a, rfl, rfl, h1, d, q, m⟩
 ·exact Sl.nil _ _ _
 ·refine ⟨_, cap, rfl, h1, d, fun _ => ⟨g, off, a, e, (0, 0), rfl, by simp [Cu], fun i x n => ⟨enc x, hk x, rfl, fun j y o => ?_⟩⟩⟩
  have := yU hk l i x n j y o
  rw [← m] at this
  have c : i * k + j < l.length * k := by
   have := (bA.1 this).1
   simp at this; omega
  rw [dA c, dw] at this
  simpa [eX] using this
variable {P : Program} {W : World} {E : Nat → Value} {d : Option Nat} {ty : TypeId} {pos : String} {af : Array Edge} {g : Option (Nat × Bool)} {F : Nat → Prop} {w : World} {μ : lm} {L : List (Nat × Obj)}
theorem TY {x : Operand} {t a : TypeId} (i : P.underlying t = some (.slice a)) (j : kG E x = v) (h : qL e enc k v l R) : mw P E ⟨d, .call ⟨.builtin .len, #[x], #[t]⟩, ty, pos, af, g⟩ W (.int .i64 l.length) W := by
 obtain ⟨A, c, rfl⟩ := h.form
 exact BG i j
theorem Qq {t q : TypeId} {x n : Operand} {O : IntKind} {i : Int} (A : P.underlying t = some (.slice q)) (he : ∀ w, (sizeOf q).run P w = .ok k w) (D : kG E x = v) (y : kG E n = .int O i) (hk : ∀ x, (enc x).length = k) (h : qL e enc k v l R) (G : 0 ≤ i) (z : i ≤ l.length) :
  ∃ u, qL e enc k u (l.drop i.toNat) R ∧ ∀ W, mw P E ⟨d, .slice t x (some n) none none, ty, pos, af, g⟩ W u W := by
 rcases h with ⟨rfl, rfl, rfl⟩ | ⟨m, off, cap, c, rfl, rfl, h1, Q, T, I⟩
 ·have : i = 0 := by simp at z; omega
  subst this
  refine ⟨.slice none 0 0, by simpa using qL.nil e enc k, fun W => ?_⟩
  show (do pure (.value (← Instr.sliceAt t (kG E x) (some (kG E n)) none none)) : Sem Next).run P W = _
  rw [D, y]
  simp [Instr.sliceAt, Instr.slice, Instr.sliceBounds, Instr.sliceBound, asIntOf, aQ A, he W]
 ·refine ⟨.slice (some (if cap = i.toNat then ⟨m, off, none⟩ else (Addr.add ⟨m, off, none⟩ (i.toNat * k)))) (l.length - i.toNat) (cap - i.toNat), .inr ?_, fun W => ?_⟩
  ·have a : (l.drop i.toNat).length = l.length - i.toNat := by simp
   have j : (l.map enc).flatten.drop (i.toNat * k) = ((l.drop i.toNat).map enc).flatten := by
    have J : l = l.take i.toNat ++ l.drop i.toNat := (fD _ _).symm
    have L : ((l.take i.toNat).map enc).flatten.length = i.toNat * k := by rw [pJ hk, cy, cP (by omega)]
    conv => lhs; rw [J, ct, fY]
    rw [← L, List.drop_left]
   by_cases s : cap = i.toNat
   ·rw [aM s]
    have o : l.drop i.toNat = [] := List.drop_eq_nil_of_le (by omega)
    refine ⟨m, off, cap - i.toNat, c, by rw [o]; simp; omega, rfl, by rw [o]; simp, by omega, by have : (cap - i.toNat) * k ≤ cap * k := cn _ (by omega); omega, by rw [o]; simp⟩
   ·rw [aK s]
    refine ⟨m, off + i.toNat * k, cap - i.toNat, c, by rw [a, dm], rfl, by rw [a]; omega, by omega, ?_, ?_⟩
    ·have : i.toNat * k + (cap - i.toNat) * k = cap * k := by rw [← cA]; congr 1; omega
     omega
    ·rw [a, ← j, ← I, gD, List.drop_drop, Nat.sub_mul]
  ·show (do pure (.value (← Instr.sliceAt t (kG E x) (some (kG E n)) none none)) : Sem Next).run P W = _
   rw [D, y]
   have M : 0 ≤ i ∧ i ≤ (l.length : Int) := ⟨G, z⟩
   simp [Instr.sliceAt, Instr.slice, Instr.sliceBounds, Instr.sliceBound, asIntOf, aQ A, he W, M]
   split <;> rfl
theorem ON {K : Value → World → Prop} {t : TypeId} {a6 : Nat} {z vs : Value} {m r : List α} (X : List (Nat × Obj)) {Y : List (Nat × Obj)} {x y : Operand} {i : TypeInfo} (a7 : ST dd F w W μ (X ++ (R ++ Y))) (hk : ∀ x, (enc x).length = k) (ak : 0 < k) (h1 : ∀ x, ∀ u ∈ enc x, u.oneCell' = true) (ht : P.underlying t = some (.slice e)) (hi : P.info? e = some i) (hz : i.zero = some z) (ab : z.cells.size = k) (a1 : i.size = k) (a8 : i.bytes = a6) (hx : kG E x = v) (hy : kG E y = vs) (hR : qL e enc k v l R) (hs : Sl (Pl enc) k (hp W) vs m) (hb : mJ a6 l m = some r) (h : ∀ W' v' R', ST dd F w W' μ (X ++ (R' ++ Y)) → qL e enc k v' r R' → K v' W') : nH P E ⟨d, .call ⟨.builtin .append, #[x, y], #[t, t]⟩, ty, pos, af, g⟩ W K := by
 rcases hR with ⟨rfl, rfl, rfl⟩ | ⟨D, off, cap, s, rfl, rfl, h2, h3, h4, h5⟩
 ·exact Nc X a7 hk ak h1 ht hi hz ab a1 a8 hx hy (kU.nil e enc k) hs hb (fun W' v' R' a b => h W' v' R' a b.Yt)
 unfold mJ at hb
 split at hb
 case isFalse => cases hb
 rename_i Z
 cases hb
 have U : ∀ (V : Value) (W' : World), (Builtin.append_ #[t, t] ty #[.slice (some ⟨D, off, none⟩) l.length cap, vs]).run P W = .ok V W' → (execOp (kG E) ⟨d, .call ⟨.builtin .append, #[x, y], #[t, t]⟩, ty, pos, af, g⟩).run P W = .ok (.value V) W' := by
  intro V W' hV
  show (do let d ← resolve (kG E) ⟨.builtin .append, #[x, y], #[t, t]⟩ ty; invoke d.target d.args : Sem Next).run P W = _
  simp [resolve, invoke, builtin, hx, hy, hV]
 obtain ⟨A, c, rfl, ap, aq, ah⟩ := hs
 have L : ST dd F w W μ (X ++ (D, .cells s e (0, 0)) :: Y) := by simpa using a7
 have hg : W.heap[D]? = some (.cells s e (0, 0)) := (L.box D _ (by simp)).1
 have J := pJ hk l
 have Q : ∀ u ∈ (m.map enc).flatten, u.oneCell' = true := by
  intro u hu
  obtain ⟨ys, ao, an⟩ := ir.1 hu
  obtain ⟨x, _, rfl⟩ := bH.1 ao
  exact h1 x u an
 have I : Src P i.size t (.slice A m.length c) m.length ((m.map enc).flatten) W := by
  rw [a1]
  rcases dG m.length with h0 | h0
  ·have hm : m = [] := bR h0
   subst hm
   cases A with
   | none => exact Src.ofNil W ht c
   | some ad => exact Src.ofSlice W ht ad 0 c [] (by simp) (fun j u hu => by simp at hu) (fun u hu => by cases hu)
  ·obtain ⟨b, o, cs, T, fr, rfl, h6, h7⟩ := ah h0
   refine Src.ofSlice W ht _ _ c _ (pJ hk m) (fun j u hu => ?_) Q
   obtain ⟨i, x, q, h8, h9, rfl⟩ := IT hk m j u hu
   obtain ⟨ys, _, ae, ag⟩ := h7 i x h8
   cases ae
   rw [dm, fI W b (o + (i * k + q)) cs T fr h6, ← eX]
   exact ag q u h9
 have n := pJ hk m
 have O : ((l ++ m).map enc).flatten = (l.map enc).flatten ++ (m.map enc).flatten := by simp
 generalize (m.map enc).flatten = fm at I Q n O
 subst a1
 have ar : l.length * i.size ≤ cap * i.size := cn _ h2
 by_cases G : l.length + m.length ≤ cap
 ·have au : l.length * i.size + m.length * i.size ≤ cap * i.size := by rw [← cA]; exact cn _ G
  have aa := jw (P := P) D (off + l.length * i.size) e fm 0 s W hg (by rw [n]; omega) Q
  have M : (Builtin.append_ #[t, t] ty #[.slice (some ⟨D, off, none⟩) l.length cap, .slice A m.length c]).run P W = .ok (.slice (some ⟨D, off, none⟩) (l.length + m.length) cap) (W.setRow D (s.toList.take (off + l.length * i.size) ++ fm ++ s.toList.drop (off + l.length * i.size + fm.length)).toArray) := by
   simp [Builtin.append_, aQ ht, sizeOf, typeInfo, hi, I.len, G, I.cells, dm]
   simp only [jV] at aa
   rw [aa]
   simp
  refine .inl ⟨_, _, U _ _ M, h _ _ [(D, _)] (by simpa using L.store _) (.inr ⟨D, off, cap, _, by rw [aH], rfl, by simpa using G, h3, ?_, ?_⟩)⟩
  ·simp only [cM, aH, cy, dn, cU, n]
   rw [cP (by omega)]
   omega
  ·have hA : (s.toList.take (off + l.length * i.size)).length = off + l.length * i.size := by simp; omega
   show ((s.toList.take (off + l.length * i.size) ++ (fm ++ s.toList.drop (off + l.length * i.size + fm.length))).drop off).take ((l ++ m).length * i.size) = _
   rw [O, List.drop_append, gD, hA, show off - (off + l.length * i.size) = 0 by omega, List.drop_zero, show off + l.length * i.size - off = l.length * i.size by omega, h5]
   rw [aH, cA, eF, eF, J, n, cX (by rw [J]; omega), show l.length * i.size + m.length * i.size - l.length * i.size = m.length * i.size by omega, cX (by rw [n]; omega)]
   simp
 ·have hold : (Builtin.firstCells i.size l.length (.slice (some ⟨D, off, none⟩) l.length cap)).run P W.drew = .ok ((l.map enc).flatten).toArray W.drew := by
   refine run_firstCells_some W.drew i.size l.length ⟨D, off, none⟩ l.length cap _ J (fun j u hu => ?_)
   rw [dm]
   show W.cell? ⟨D, off + j, none⟩ = some u
   rw [fI W D (off + j) s e (0, 0) hg]
   rw [← h5] at hu
   have hj : j < l.length * i.size := by have := (bA.1 hu).1; simp at this; omega
   rw [dA hj, dw] at hu
   simpa using hu
  have hlen : (l ++ m).length = l.length + m.length := aH
  have aj := grownCap_ge W (l.length + m.length) cap e
  have ai := jc W (l.length + m.length) cap e Z.2
  have M := run_append_grow_src (P := P) W t t ty e i z ht hi hz (some ⟨D, off, none⟩) l.length cap ((l.map enc).flatten) hold _ m.length _ I (by omega) (by have := Z.2; unfold maxLen at this; omega) (growslice_fits (by omega) (by rw [a8]; exact Z.1))
  have h6 := L.drew.alloc (.cells (((l.map enc).flatten ++ fm).toArray ++ Builtin.zeroCells z.cells (grownCap W (l.length + m.length) cap e - (l.length + m.length))) e (0, 0))
  have h7 := (ST.drop (A := (W.drew.heap.size, _) :: X) h6).perm (L' := X ++ ([(W.heap.size, _)] ++ Y)) (by simpa using (fe (a := (W.heap.size, _)) (l₁ := X) (l₂ := Y)).symm)
  refine .inl ⟨_, _, U _ _ M, h _ _ _ h7 (kU.Yt (.inr ⟨W.heap.size, grownCap W (l.length + m.length) cap e, _, by rw [hlen], rfl, by rw [hlen]; exact aj, ai, ?_, ?_⟩))⟩
  ·rw [Array.size_append, size_zeroCells, ab]
   simp only [cM, aH, J, n]
   rw [← cA, ← cA]
   congr 1
   omega
  ·rw [Array.toList_append, List.toList_toArray, hlen, O, List.take_append_of_le_length (by simp only [aH, J, n]; rw [cA]; exact bB _), cX (by simp only [aH, J, n]; rw [cA]; exact bB _)]
end
end Go.Proofs.YtbnbdigcbldfhaaGreat
namespace Go.Proofs.YtbnbdigcbldfhaaGreat
open Go.RowKit
section
variable {P : Program} {ops : Array Oper} {Q : Exit → Act → World → Prop} {S : Array Bool → World → Prop}
def zZ (ops : Array Oper) (l : Array Bool) : Prop := ∀ j o, ops[j]? = some o → l.getD j true = true → ∀ e ∈ o.after, Region.binds .any e = true → l.getD e.on true = true
def JE (ops : Array Oper) : Nat → List Nat → Bool
 | _, [] => true
 | j, k :: r => (match ops[j]? with | some o => o.after.any (fun e => Region.binds .any e && e.on == k) | none => false) && JE ops k r
theorem Jj {l : Array Bool} (d : zZ ops l) : ∀ (r : List Nat) (j i : Nat), JE ops j r = true → (j :: r).getLast? = some i → l.getD j true = true → l.getD i true = true
 | [], j, i, _, h, a => by simp at h; subst h; exact a
 | k :: r, j, i, h, m, a => by
  simp only [JE, aU] at h
  obtain ⟨h1, g⟩ := h
  cases c : ops[j]? with
  | none => rw [c] at h1; cases h1
  | some o =>
   rw [c] at h1
   simp only [Array.any_eq_true] at h1
   obtain ⟨n, q, h1⟩ := h1
   simp only [aU, gj] at h1
   have := d j o c a o.after[n] (Array.getElem_mem q) h1.1
   rw [h1.2] at this
   exact Jj d r k i g (by simpa [List.getLast?_cons_cons] using m) this
def IP (ops : Array Oper) (i : Nat) (l : Array Bool) : Prop := zZ ops l ∧ l.getD i true = false
theorem IP.Ss {l : Array Bool} {i : Nat} (h : IP ops i l) (j : Nat) (r : List Nat) (a : JE ops j r = true) (d : (j :: r).getLast? = some i) : l.getD j true = false := by
 cases c : l.getD j true with
 | false => rfl
 | true => have := Jj h.1 r j i a d c; rw [h.2] at this; cases this
theorem zZ.start (n : Nat) (h : n = ops.size) : zZ ops (Array.replicate n false) := by
 subst h
 intro j o d c
 have a : j < ops.size := (cJ.1 d).1
 simp [a] at c
theorem zZ.set {l : Array Bool} {i : Nat} (h : zZ ops l) (t : i ∈ Region.ready .any ops l) : zZ ops (l.setIfInBounds i true) := by
 intro j o s q e he n
 have up : ∀ {k : Nat}, l.getD k true = true → (l.setIfInBounds i true).getD k true = true := fun {k} hk => by
  by_cases d : i = k
  ·subst d
   by_cases m : i < l.size
   ·simp [m]
   ·simp [m]
  ·rw [kl true d]; exact hk
 by_cases c : i = j
 ·subst c
  obtain ⟨_, u, g, a⟩ := ku.1 t
  rw [s] at g
  cases g
  refine up ?_
  have := a e he n
  by_cases m : e.on < l.size
  ·simp [m] at this ⊢; exact this
  ·simp [m]
 ·rw [kl true c] at q
  exact up (h j o s q e he n)
def Fi (P : Program) (ops : Array Oper) (S : Array Bool → World → Prop) (i : Nat) (o : Oper) (v : Value) (a : Act) : Prop :=
 (Region.wanted o (yielded ops a.tmps) = true ∧ ∀ l w, IP ops i l → S l w → (execOp a.eval o).run P w = .ok (.value v) w) ∨
 (Region.wanted o (yielded ops a.tmps) = false ∧ v = undef)
theorem Fi.Yv {i : Nat} {o : Oper} {v : Value} {a : Act} {l : Array Bool} (h : Fi P ops S i o v a) (hp : IP ops i l) : YieldsIf P ops (S l) o v a :=
 h.imp (fun ⟨h1, c⟩ => ⟨h1, fun w hw => c l w hp hw⟩) id
def PW (P : Program) (ops : Array Oper) (Q : Exit → Act → World → Prop) (S : Array Bool → World → Prop) : Nat → Array Bool → Act → World → Prop
 | 0, l, a, w => Region.ready .any ops l = [] ∧ Q .normal a w
 | n + 1, l, a, w => (Region.ready .any ops l = [] → Q .normal a w) ∧
  ∀ i ∈ Region.ready .any ops l, wpOp P ops Q i (fun d c => S (l.setIfInBounds i true) c ∧ PW P ops Q S n (l.setIfInBounds i true) d c) a w
theorem OW : ∀ (n : Nat) (l : Array Bool) (a : Act) (w : World), PW P ops Q S n l a w → wpAny P .any ops Q n l a w
 | 0, _, _, _, h => h
 | n + 1, _, _, _, h => ⟨h.1, fun i g => wpOp_mono (fun c j d => OW n _ c j d.2) (h.2 i g)⟩
theorem SC {i j : Nat} {d q : Oper} {v : Value} (x : ops[j]? = some q) (m : d.apart ops q = true) (n : ∀ cs b, d.op ≠ .select cs b) (o : ∀ cs b, q.op ≠ .select cs b) (u : ∀ c a w, Q (.panic c) (a.put d.dst v) w → Q (.panic c) a w) {K : Act → World → Prop} {a : Act} {w : World} (y : Fi P ops S i d v a) (h : wpOp P ops Q j K (a.put d.dst v) w) :
  wpOp P ops Q j (fun g t => Fi P ops S i d v g ∧ K (g.put d.dst v) t) a w := by
 have h1 : YieldsIf P ops (fun w => ∃ l, IP ops i l ∧ S l w) d v a := y.imp (fun ⟨h1, k⟩ => ⟨h1, fun w ⟨l, hp, hw⟩ => k l w hp hw⟩) id
 refine wpOp_mono (fun g t s => ⟨s.1.imp (fun ⟨h1, k⟩ => ⟨h1, fun l w hp hw => k w ⟨l, hp, hw⟩⟩) id, s.2⟩) (wpOp_putIf (S := fun w => ∃ l, IP ops i l ∧ S l w) x m n o u h1 h)
theorem Lk {i : Nat} {z : Oper} {v : Value} (Y : ops[i]? = some z) (u : ∀ (j : Nat) (o : Oper) cs b, ops[j]? = some o → o.op ≠ .select cs b) (hQ : ∀ c a w, Q (.panic c) (a.put z.dst v) w → Q (.panic c) a w) (hm : ∀ l w, S (l.setIfInBounds i true) w → S l w) :
  ∀ (n : Nat) (l : Array Bool) (a : Act) (w : World), (∀ j A, ops[j]? = some A → j ≠ i → l.getD j true = false → (∀ e ∈ A.after, Region.binds .any e = true → e.on ≠ i) → z.apart ops A = true) →
   zZ ops l → i ∈ Region.ready .any ops l → Fi P ops S i z v a → S (l.setIfInBounds i true) w → PW P ops Q S n (l.setIfInBounds i true) (a.put z.dst v) w → PW P ops Q S (n + 1) l a w := by
 intro n
 induction n with
 | zero =>
  intro l a w _ O s R D H
  refine ⟨fun h => (by rw [h] at s; cases s), fun j I => ?_⟩
  by_cases d : j = i
  ·subst d
   exact (R.Yv ⟨O, (ku.1 s).1⟩).wpOp Y (hm l w D) ⟨D, H⟩
  ·have := ready_mono I d
   rw [H.1] at this
   cases this
 | succ n ih =>
  intro l a w m O s R D H
  refine ⟨fun h => (by rw [h] at s; cases s), fun j I => ?_⟩
  by_cases d : j = i
  ·subst d
   exact (R.Yv ⟨O, (ku.1 s).1⟩).wpOp Y (hm l w D) ⟨D, H⟩
  have h1 := H.2 j (ready_mono I d)
  obtain ⟨t, A, y, G⟩ := ku.1 I
  have L : ∀ e ∈ A.after, Region.binds .any e = true → e.on ≠ i := fun e he hb W => by
   have x := G e he hb
   have h0 := (ku.1 s).1
   rw [W] at x
   rcases iU i l.size with T | T
   ·simp [T] at h0 x; rw [h0] at x; cases x
   ·simp [Array.getElem?_eq_none T] at x
  have x := SC y (m j A y d t L) (fun cs b => u i z cs b Y) (fun cs b => u j A cs b y) hQ R h1
  have q : ∀ k ok, ops[k]? = some ok → k ≠ i → (l.setIfInBounds j true).getD k true = false → (∀ e ∈ ok.after, Region.binds .any e = true → e.on ≠ i) → z.apart ops ok = true := fun k ok hk Z M a1 => by
   refine m k ok hk Z ?_ a1
   by_cases J : j = k
   ·subst J; exact t
   ·rw [kl true J] at M; exact M
  have g : (l.setIfInBounds i true).setIfInBounds j true = (l.setIfInBounds j true).setIfInBounds i true := Array.setIfInBounds_comm _ _ (Ne.symm d)
  refine wpOp_mono (fun a' w' U => ?_) x
  have h4 : S ((l.setIfInBounds j true).setIfInBounds i true) w' := by rw [← g]; exact U.2.1
  refine ⟨hm _ w' h4, ih (l.setIfInBounds j true) a' w' q (O.set I) (ready_mono s (Ne.symm d)) U.1 h4 ?_⟩
  rw [← g]
  exact U.2.2
end
def PX (P : Program) (n : Nat) (ops : Array Oper) (Q : oD) (S : Array Bool → World → Prop) (fuel : Nat) (listed : Array Bool) (E : Nat → Value) (W : World) : Prop :=
 zZ ops listed → ∀ a, Ag n a E → PW P ops (lift n Q) S fuel listed a W
section
variable {P : Program} {n : Nat} {Q : oD} {E : Nat → Value} {W : World} {ops : Array Oper} {S : Array Bool → World → Prop} {fuel : Nat} {listed : Array Bool}
theorem NR {id : Nat} {l : List Oper} (S : Array Bool → World → Prop) (hm : P.follows .mixedOrders = true) (h : PX P n l.toArray Q S l.length (Array.replicate l.length false) E W.drew) : CW P n (.region id l.toArray true) Q E W := fun a ha =>
 wp_region_any hm (OW _ _ _ _ (h (zZ.start _ (by simp)) a ha))
def Er (ops : Array Oper) (listed : Array Bool) (i : Nat) : Bool := Region.noSelect ops && Region.free .any ops listed i && (Region.ready .any ops listed).contains i
theorem nR {o : Oper} {dd : Nat} {v : Value} (i : Nat) (g : ops[i]? = some o) (hk : Er ops listed i = true) (hw : mA n ops E o) (m : o.dst = some dd) (q : dd < n) (hm : ∀ l w, S (l.setIfInBounds i true) w → S l w) (k : S (listed.setIfInBounds i true) W) (s : ∀ l W, IP ops i l → S l W → mw P E o W v W) (h : PX P n ops Q S fuel (listed.setIfInBounds i true) (nA E dd v) W) : PX P n ops Q S (fuel + 1) listed E W := fun d a ha => by
 simp only [Er, aU] at hk
 have j : i ∈ Region.ready .any ops listed := by simpa using hk.2
 exact Lk g (Region.noSelect_spec hk.1.1) (fun _ _ _ h => Nd h) hm fuel listed a W (Region.free_spec g hk.1.2) d j (.inl ⟨hw.of ha, fun l w hp c => by rw [ha.eval]; exact s l w hp c⟩) k (by rw [m]; exact h (d.set j) _ (ha.put q v))
theorem FM {A : Value → Prop} {o : Oper} {dd : Nat} (i : Nat) (g : ops[i]? = some o) (hk : Er ops listed i = true) (hw : mA n ops E o) (d : o.dst = some dd) (j : dd < n) (hm : ∀ l w, S (l.setIfInBounds i true) w → S l w) (c : S (listed.setIfInBounds i true) W) (k : ∃ p, A p ∧ ∀ W, mw P E o W p W) (h : ∀ p, A p → PX P n ops Q S fuel (listed.setIfInBounds i true) (nA E dd p) W) : PX P n ops Q S (fuel + 1) listed E W := by
 obtain ⟨p, h1, a⟩ := k
 exact nR i g hk hw d j hm c (fun _ W _ _ => a W) (h p h1)
theorem PE {o : Oper} {dd : Nat} (i : Nat) (d : ops[i]? = some o) (hk : Er ops listed i = true) (hw : ∀ a, Ag n a E → Region.wanted o (yielded ops a.tmps) = false) (k : o.dst = some dd) (m : dd < n) (hm : ∀ l w, S (l.setIfInBounds i true) w → S l w) (j : S (listed.setIfInBounds i true) W) (h : PX P n ops Q S fuel (listed.setIfInBounds i true) (nA E dd undef) W) : PX P n ops Q S (fuel + 1) listed E W := fun c a ha => by
 simp only [Er, aU] at hk
 have g : i ∈ Region.ready .any ops listed := by simpa using hk.2
 exact Lk d (Region.noSelect_spec hk.1.1) (fun _ _ _ h => Nd h) hm fuel listed a W (Region.free_spec d hk.1.2) c g (.inr ⟨hw a ha, rfl⟩) j (by rw [k]; exact h (c.set g) _ (ha.put m _))
theorem Ye {o : Oper} {dd j t : Nat} {want : Bool} (i : Nat) (m : ops[i]? = some o) (hk : Er ops listed i = true) (k : o.guard = some (j, want)) (q : (ops[j]?).bind (·.dst) = some t) (u : t < n) (c : E t = .bool (!want)) (g : o.dst = some dd) (s : dd < n) (hm : ∀ l w, S (l.setIfInBounds i true) w → S l w) (d : S (listed.setIfInBounds i true) W) (h : PX P n ops Q S fuel (listed.setIfInBounds i true) (nA E dd undef) W) : PX P n ops Q S (fuel + 1) listed E W :=
 PE i m hk (fun a ha => by have v := ha.yield q u c; simp [Region.wanted, k, v]) g s hm d h
theorem Wj {o : Oper} {dd j t : Nat} {want : Bool} (i : Nat) (m : ops[i]? = some o) (hk : Er ops listed i = true) (k : o.guard = some (j, want)) (q : (ops[j]?).bind (·.dst) = some t) (u : t < n) (c : E t = undef) (g : o.dst = some dd) (s : dd < n) (hm : ∀ l w, S (l.setIfInBounds i true) w → S l w) (d : S (listed.setIfInBounds i true) W) (h : PX P n ops Q S fuel (listed.setIfInBounds i true) (nA E dd undef) W) : PX P n ops Q S (fuel + 1) listed E W :=
 PE i m hk (fun a ha => by have v := ha.Jh q u c; simp [Region.wanted, k, v]) g s hm d h
theorem Qv {o : Oper} {dd : Nat} (i : Nat) (w : ops[i]? = some o) (g : Region.ready .any ops listed = [i]) (hw : mA n ops E o) (m : o.dst = some dd) (q : dd < n) (h : nH P E o W fun v W' => S (listed.setIfInBounds i true) W' ∧ PX P n ops Q S fuel (listed.setIfInBounds i true) (nA E dd v) W') : PX P n ops Q S (fuel + 1) listed E W := fun k a ha => by
 have c : i ∈ Region.ready .any ops listed := by rw [g]; simp
 refine ⟨fun u => (by rw [u] at g; cases g), fun j s => ?_⟩
 rw [g] at s
 obtain rfl := aO.1 s
 unfold wpOp
 simp only [w]
 rw [aM (hw.of ha)]
 refine .inl ?_
 unfold Oper.wp
 rw [ha.eval]
 rcases h with ⟨v, W', h1, d⟩ | ⟨W', h1, d⟩ | ⟨f, args, h1, d⟩
 ·rw [h1, dT]; exact ⟨d.1, by rw [m]; exact d.2 (k.set c) _ (ha.put q v)⟩
 ·rw [h1, fc]; exact ⟨d.1, by rw [m]; exact d.2 (k.set c) _ (ha.put q _)⟩
 ·rw [h1, dU]
  refine cH d ?_
  rintro e x ⟨v, rfl, t⟩
  exact ⟨t.1, by simp only [m]; exact t.2 (k.set c) _ (ha.put q v)⟩
theorem X0 {o : Oper} (i : Nat) (u : ops[i]? = some o) (g : Region.ready .any ops listed = [i]) (hw : mA n ops E o) (m : o.dst = none) (h : nH P E o W fun _ W' => S (listed.setIfInBounds i true) W' ∧ PX P n ops Q S fuel (listed.setIfInBounds i true) E W') : PX P n ops Q S (fuel + 1) listed E W := fun k a ha => by
 have c : i ∈ Region.ready .any ops listed := by rw [g]; simp
 refine ⟨fun t => (by rw [t] at g; cases g), fun j q => ?_⟩
 rw [g] at q
 obtain rfl := aO.1 q
 unfold wpOp
 simp only [u]
 rw [aM (hw.of ha)]
 refine .inl ?_
 unfold Oper.wp
 rw [ha.eval]
 rcases h with ⟨v, W', h1, d⟩ | ⟨W', h1, d⟩ | ⟨f, args, h1, d⟩
 ·rw [h1, dT, m]; exact ⟨d.1, d.2 (k.set c) _ (ha.xa _)⟩
 ·rw [h1, fc, m]; exact ⟨d.1, d.2 (k.set c) _ (ha.xa _)⟩
 ·rw [h1, dU]
  refine cH d ?_
  rintro e w ⟨v, rfl, s⟩
  simp only [m]
  exact ⟨s.1, s.2 (k.set c) _ (ha.xa _)⟩
theorem lT (d : Region.ready .any ops listed = []) (h : Q .normal E W) : PX P n ops Q S fuel listed E W := fun _ a ha => by
 cases fuel with
 | zero => exact ⟨d, E, ha, h⟩
 | succ f => exact ⟨fun _ => ⟨E, ha, h⟩, fun i c => by rw [d] at c; cases c⟩
theorem Pu {p : Prop} {b : Bool} (a : b = true) (h : b = false) : p := by rw [a] at h; cases h
theorem nx {a : Array Bool} (c : listed = a) (h : PX P n ops Q S fuel a E W) : PX P n ops Q S fuel listed E W := by rw [c]; exact h
theorem SP {E : Nat → Value} {a b : Nat} {x y : Value} (h : a ≠ b) : nA (nA E a x) b y = nA (nA E b y) a x := by
 funext t
 simp only [nA]
 by_cases h1 : t = a
 ·subst h1; simp [h]
 ·by_cases c : t = b
  ·subst c; simp [h1]
  ·simp [h1, c]
theorem Ha {o u : Oper} {d w : Nat} (i j : Nat) (M : ops[i]? = some o) (O : ops[j]? = some u) (t : Region.ready .any ops listed = [i, j]) (hw : mA n ops E o) (A : mA n ops E u) (m : o.dst = some d) (y : u.dst = some w) (s : d < n) (z : w < n) (h : nH P E o W fun v W' => S (listed.setIfInBounds i true) W' ∧ PX P n ops Q S fuel (listed.setIfInBounds i true) (nA E d v) W') (J : nH P E u W fun v W' => S (listed.setIfInBounds j true) W' ∧ PX P n ops Q S fuel (listed.setIfInBounds j true) (nA E w v) W') : PX P n ops Q S (fuel + 1) listed E W := fun x a ha => by
 have key : ∀ (k : Nat) (q : Oper) (e : Nat), ops[k]? = some q → k ∈ Region.ready .any ops listed → mA n ops E q → q.dst = some e → e < n → (nH P E q W fun v W' => S (listed.setIfInBounds k true) W' ∧ PX P n ops Q S fuel (listed.setIfInBounds k true) (nA E e v) W') →
   wpOp P ops (lift n Q) k (fun I D => S (listed.setIfInBounds k true) D ∧ PW P ops (lift n Q) S fuel (listed.setIfInBounds k true) I D) a W := by
  intro k q e hk c hw m s h
  unfold wpOp
  simp only [hk]
  rw [aM (hw.of ha)]
  refine .inl ?_
  unfold Oper.wp
  rw [ha.eval]
  rcases h with ⟨v, W', h1, g⟩ | ⟨W', h1, g⟩ | ⟨f, args, h1, g⟩
  ·rw [h1, dT]; exact ⟨g.1, by rw [m]; exact g.2 (x.set c) _ (ha.put s v)⟩
  ·rw [h1, fc]; exact ⟨g.1, by rw [m]; exact g.2 (x.set c) _ (ha.put s _)⟩
  ·rw [h1, dU]
   refine cH g ?_
   rintro e D ⟨v, rfl, G⟩
   exact ⟨G.1, by simp only [m]; exact G.2 (x.set c) _ (ha.put s v)⟩
 refine ⟨fun L => (by rw [L] at t; cases t), fun k hk => ?_⟩
 rw [t] at hk
 rcases aR.1 hk with rfl | hk
 ·exact key _ o d M (by rw [t]; simp) hw m s h
 ·obtain rfl := aO.1 hk
  exact key _ u w O (by rw [t]; simp) A y z J
theorem Rz {dd : Bool} {F : Nat → Prop} {w : World} {μ : lm} {L : List (Nat × Obj)} {t A ty D : TypeId} {p p' : String} {f T : Array Edge} {z R : Value} {d m : Nat} (i j : Nat) (I : ops[i]? = some ⟨some d, .alloc t, ty, p, f, none⟩) (J : ops[j]? = some ⟨some m, .alloc A, D, p', T, none⟩) (Z : Region.ready .any ops listed = [i, j]) (x : Region.ready .any ops (listed.setIfInBounds i true) = [j]) (y : Region.ready .any ops (listed.setIfInBounds j true) = [i]) (M : d < n) (q : m < n) (v : Nat.beq d m = false) (u : Nat.beq i j = false) (o : ST dd F w W μ L) (O : ∀ w, (zeroValue t).run P w = .ok z w) (s : ∀ w, (zeroValue A).run P w = .ok R w) (h1 : ∀ W', rR μ L W' → S (listed.setIfInBounds i true) W') (U : ∀ W', rR μ L W' → S (listed.setIfInBounds j true) W') (G : ∀ W', rR μ L W' → S ((listed.setIfInBounds i true).setIfInBounds j true) W') (h : ∀ W' b c, ST dd F w W' μ ((b, .cells z.cells t (0, 0)) :: (c, .cells R.cells A (0, 0)) :: L) → PX P n ops Q S fuel ((listed.setIfInBounds i true).setIfInBounds j true) (nA (nA E d (.pointer (some ⟨b, 0, none⟩))) m (.pointer (some ⟨c, 0, none⟩))) W') :
  PX P n ops Q S (fuel + 1 + 1) listed E W := by
 have k : (listed.setIfInBounds j true).setIfInBounds i true = (listed.setIfInBounds i true).setIfInBounds j true := Array.setIfInBounds_comm _ _ (fun e => by subst e; simp at u)
 have Y : d ≠ m := fun e => by subst e; simp at v
 refine Ha i j I J Z (.inl rfl) (.inl rfl) rfl rfl M q (lA o O (fun W1 b a => ⟨h1 _ (a.has.sub (kY.refl _) fun _ hp => .tail _ hp), ?_⟩)) (lA o s (fun W1 c a => ⟨U _ (a.has.sub (kY.refl _) fun _ hp => .tail _ hp), ?_⟩))
 ·refine Qv j J x (.inl rfl) rfl q (lA a s (fun W2 c g => ⟨G _ (g.has.sub (kY.refl _) fun _ hp => .tail _ (.tail _ hp)), ?_⟩))
  exact h W2 b c (g.perm (List.Perm.swap _ _ _))
 ·refine Qv i I y (.inl rfl) rfl M (lA a O (fun W2 b g => ⟨?_, ?_⟩))
  ·rw [k]; exact G _ (g.has.sub (kY.refl _) fun _ hp => .tail _ (.tail _ hp))
  ·rw [k, ← SP Y]; exact h W2 b c g
theorem qY {l : Array Bool} {i j : Nat} {A : Prop} (a : Nat.beq i j = false) (h : (l.setIfInBounds i true).getD j true = false → A) : l.getD j true = false → A := fun c => h (by
 rw [kl true (fun e => by subst e; simp at a)]; exact c)
end
theorem E2.at {α : Type} {e : TypeId} {enc : α → List Value} {k : Nat} {v : Value} {l : List α} {R : List (Nat × Obj)} (h : kU e enc k v l R) (hk : ∀ x, (enc x).length = k) {p : Value} {i : Nat} (hp : E2 R k p i) {x : α} (g : l[i]? = some x) : At (Cu R) p (enc x) := by
 obtain ⟨c, a, cap, rfl, rfl, _, _, _, _, rfl, d⟩ := Dk h hk hp g
 exact ⟨c, i * k, a, e, (0, 0), rfl, by simp [Cu], d⟩
theorem xk.form {κ β : Type} {kenc : κ → Value} {vf : β → Value} {μ : lm} {v : Value} {l : List (κ × β)} (h : xk kenc vf μ v l) : ∃ r, v = .map r := by
 rcases h with ⟨h, _⟩ | ⟨m, es, clock, h, _⟩
 ·exact ⟨_, h⟩
 ·exact ⟨_, h⟩
section
variable {P : Program} {W : World} {E : Nat → Value} {d : Option Nat} {ty : TypeId} {pos : String} {af : Array Edge} {g : Option (Nat × Bool)}
theorem Ly {tx tv : TypeId} {x y : Operand} {α β : Type} {fv : Value} {μ : lm} {c : α → List Value} {m : β → Value} {pm : α → Option β} {s u : Array TypeId} {bb : Bool} (i : P.underlying tx = some (.func s u bb)) (h : th P fv μ c m pm) (j : kG E x = fv) (k : kG E y = .nilFunc) :
  mw P E ⟨d, .binOp .eql tx x y tv, ty, pos, af, g⟩ W (.bool false) W := by
 obtain ⟨f, a, b, rfl⟩ := h.form
 exact Ot i j k
end
noncomputable def Jf {β : Type} (l : List (ByteArray × β)) : Option (List ByteArray) :=
 open Classical in if (l.map (·.1)).Nodup ∧ (∀ p ∈ l, p.1.size ≤ maxLen) ∧ l.length * 16 ≤ 140737488355328 then some (oV (l.map (·.1))) else none
def Sp {κ κ2 β α : Type} (a : Nat) (mk : κ → κ2 → α) (l : List (κ × List (κ2 × β))) : Option (List α) :=
 if (l.flatMap (fun p => p.2.map (fun q => mk p.1 q.1))).length * a ≤ 140737488355328 ∧ (l.flatMap (fun p => p.2.map (fun q => mk p.1 q.1))).length ≤ maxLen then some (l.flatMap (fun p => p.2.map (fun q => mk p.1 q.1))) else none
section
variable {P : Program} {n : Nat} {Q : oD} {E : Nat → Value} {W : World} {ops : Array Oper} {rest : List Oper}
variable {dd : Bool} {α : Type} {enc : α → List Value} {k : Nat} {μ : lm} {v : Value}
variable {d : Option Nat} {ty : TypeId} {pos : String} {af : Array Edge} {g : Option (Nat × Bool)} {F : Nat → Prop} {w : World} {L : List (Nat × Obj)}
def vP (enc : α → List Value) (k : Nat) : rA (List α) := fun μ ys x => ∃ v, ys = [v] ∧ Sl (Pl enc) k μ v x
theorem vP.mono (enc : α → List Value) (k : Nat) : Jk (vP enc k) := fun _ _ _ _ c ⟨v, h1, a⟩ => ⟨v, h1, a.mono (Pl.mono _) c⟩
inductive Ea (enc : α → List Value) (k : Nat) (μ : lm) : List Value → List (List α) → Prop
 | nil : Ea enc k μ [] []
 | cons {v : Value} {x : List α} {vs : List Value} {l : List (List α)} : Sl (Pl enc) k μ v x → Ea enc k μ vs l → Ea enc k μ (v :: vs) (x :: l)
theorem Ea.length {vs : List Value} {l : List (List α)} (h : Ea enc k μ vs l) : vs.length = l.length := by
 induction h with
 | nil => rfl
 | cons _ _ ih => simp [ih]
theorem Ea.get {vs : List Value} {l : List (List α)} (h : Ea enc k μ vs l) : ∀ (i : Nat) (x : List α), l[i]? = some x → ∃ v, vs[i]? = some v ∧ Sl (Pl enc) k μ v x := by
 induction h with
 | nil => intro i x a; simp at a
 | cons h1 _ ih =>
  intro i x a
  cases i with
  | zero => simp at a; subst a; exact ⟨_, rfl, h1⟩
  | succ i => simpa using ih i x (by simpa using a)
theorem vP.lit {b m : Nat} {vs : List Value} {e : TypeId} {l : List (List α)} (hm : l.length = m) (d : m ≤ maxLen) (g : μ b = some (.cells vs.toArray e (0, 0))) (h : Ea enc k μ vs l) : Sl (vP enc k) 1 μ (.slice (some ⟨b, 0, none⟩) m m) l := by
 subst hm
 refine ⟨_, _, rfl, bB _, d, fun _ => ⟨b, 0, _, _, _, rfl, g, fun i x n => ?_⟩⟩
 obtain ⟨v, h1, c⟩ := h.get i x n
 refine ⟨[v], rfl, ⟨v, rfl, c⟩, fun j y a => ?_⟩
 cases j with
 | zero => simp at a; subst a; simpa using h1
 | succ j => simp at a
theorem DB {k2 : Nat} {t e : TypeId} {x a : Operand} {u : IntKind} {i : Int} {l : List (List α)} {x0 : List α} (q : P.underlying t = some (.slice e)) (he : ∀ w, (sizeOf e).run P w = .ok 1 w) (s : kG E x = v) (m : kG E a = .int u i) (o : Sl (vP enc k2) 1 μ v l) (c : 0 ≤ i) (n : l[i.toNat]? = some x0) :
  ∃ p, (∃ v0, At μ p [v0] ∧ Sl (Pl enc) k2 μ v0 x0) ∧ ∀ W, mw P E ⟨d, .indexAddr t x a, ty, pos, af, g⟩ W p W := by
 obtain ⟨p, ys, h1, ⟨v0, rfl, h⟩, j, k⟩ := KA (d := d) (ty := ty) (pos := pos) (af := af) (g := g) q he s m o c n
 exact ⟨p, ⟨v0, j, h⟩, k⟩
theorem NJ {x : Operand} {t e : TypeId} (a : P.underlying t = some (.slice e)) (c : kG E x = .slice none 0 0) : mw P E ⟨d, .call ⟨.builtin .cap, #[x], #[t]⟩, ty, pos, af, g⟩ W (.int .i64 0) W := by
 show (do let d ← resolve (kG E) ⟨.builtin .cap, #[x], #[t]⟩ ty; invoke d.target d.args : Sem Next).run P W = _
 simp [resolve, invoke, builtin, Builtin.cap_, aQ a, c, goInt]
theorem N7 {x y : Operand} {ats : Array TypeId} {k : IntKind} {a b : Int} (c : kG E x = .int k a) (h : kG E y = .int k b) :
  mw P E ⟨d, .call ⟨.builtin .max, #[x, y], ats⟩, ty, pos, af, g⟩ W (.int k (if b > a then b else a)) W := by
 show (do let d ← resolve (kG E) ⟨.builtin .max, #[x, y], ats⟩ ty; invoke d.target d.args : Sem Next).run P W = _
 simp [resolve, invoke, c, h, builtin, Builtin.max_, Builtin.max2]
theorem Q9 {t e : TypeId} {x ih : Operand} {i : IntKind} (c : P.underlying t = some (.slice e)) (he : ∀ w, (sizeOf e).run P w = .ok k w) (h : kG E x = .slice none 0 0) (a : kG E ih = .int i 0) :
  mw P E ⟨d, .slice t x none (some ih) none, ty, pos, af, g⟩ W (.slice none 0 0) W := by
 show (do pure (.value (← Instr.sliceAt t (kG E x) none (some (kG E ih)) none)) : Sem Next).run P W = _
 rw [h, a]
 simp [Instr.sliceAt, Instr.slice, Instr.sliceBounds, Instr.sliceBound, asIntOf, aQ c, he W]
def J1 {α : Type} (a : Nat) (z : α) (n : Int) : Option (List α) := if 0 < n ∧ n * a ≤ 140737488355328 ∧ n ≤ (maxLen : Int) then some (List.replicate n.toNat z) else none
theorem I8 (t m ty e : TypeId) (i : TypeInfo) (z : Value) (x : P.underlying t = some (.slice e)) (k : P.underlying m = some (.int .i64)) (s : P.info? e = some i) (y : i.zero = some z) (n : Nat) (o : 0 < n) (w : 0 < i.size) (q : n ≤ 9223372036854775807) (d : n * i.bytes ≤ 140737488355328) (W : World) :
  (Builtin.append_ #[t, m] ty #[.slice none 0 0, .int .i64 (n : Int)]).run P W =
   .ok (.slice (some ⟨W.heap.size, 0, none⟩) n (grownCap W n 0 e)) (W.drew.alloc (.cells (Builtin.zeroCells z.cells n ++ Builtin.zeroCells z.cells (grownCap W n 0 e - n)) e)) := by
 have hw : IntKind.i64.wrap (n : Int) = (n : Int) := by unfold IntKind.wrap; simp [IntKind.bits, IntKind.signed]; omega
 have h1 : ¬ ((n : Int) < 0) := by omega
 have a : ¬ (281474976710656 < (n : Int) * i.bytes) := by
  have := Int.ofNat_le.2 d
  rw [Int.natCast_mul] at this
  omega
 have g : ¬ (n * i.size = 0) := fun h => by rcases Nat.mul_eq_zero.1 h with h | h <;> omega
 have u : n ≠ 0 := by omega
 have v : i.size ≠ 0 := by omega
 have c : ¬ (9223372036854775807 < (n : Int)) := by omega
 have j : ¬ (281474976710656 < Builtin.nextslicecap n 0 * i.bytes) := by rw [nextslicecap_zero o]; omega
 simp [Builtin.append_, aQ x, aQ k, sizeOf, typeInfo, zeroValue, s, y, asInt, asIntOf, hw, h1, a, u, c, j, Question.forced, run_firstCells_none, newRow, grownCap]
 exact fun h => absurd h g
theorem MT {K : Value → World → Prop} {α : Type} {e t D : TypeId} {enc : α → List Value} {k s : Nat} {c : Value} {n : Int} {z : α} {r : List α} (X : List (Nat × Obj)) {Y : List (Nat × Obj)} {x y : Operand} {i : TypeInfo} (j : ST dd F w W μ (X ++ Y)) (hk : ∀ x, (enc x).length = k) (T : 0 < k) (ht : P.underlying t = some (.slice e)) (a1 : P.underlying D = some (.int .i64)) (hi : P.info? e = some i) (hz : i.zero = some c) (Z : i.size = k) (M : i.bytes = s) (hc : c.cells = (enc z).toArray) (hx : kG E x = .slice none 0 0) (hy : kG E y = .int .i64 n) (a : J1 s z n = some r) (h : ∀ W' v' R', ST dd F w W' μ (X ++ (R' ++ Y)) → kU e enc k v' r R' → K v' W') : nH P E ⟨d, .call ⟨.builtin .append, #[x, y], #[t, D]⟩, ty, pos, af, g⟩ W K := by
 unfold J1 at a
 split at a
 case isFalse => cases a
 rename_i L
 cases a
 obtain ⟨n, rfl⟩ : ∃ m : Nat, n = (m : Int) := ⟨n.toNat, by omega⟩
 have U : 0 < n := by omega
 subst Z; subst M
 have hM : n ≤ maxLen := by omega
 have J : n ≤ 9223372036854775807 := by simp only [maxLen] at hM; omega
 have I : n * i.bytes ≤ 140737488355328 := Int.ofNat_le.1 (by rw [Int.natCast_mul]; exact L.2.1)
 have hr := I8 (P := P) t D ty e i c ht a1 hi hz n U T J I W
 have v : (execOp (kG E) ⟨d, .call ⟨.builtin .append, #[x, y], #[t, D]⟩, ty, pos, af, g⟩).run P W = .ok (.value (.slice (some ⟨W.heap.size, 0, none⟩) n (grownCap W n 0 e))) (W.drew.alloc (.cells (Builtin.zeroCells c.cells n ++ Builtin.zeroCells c.cells (grownCap W n 0 e - n)) e)) := by
  show (do let d ← resolve (kG E) ⟨.builtin .append, #[x, y], #[t, D]⟩ ty; invoke d.target d.args : Sem Next).run P W = _
  simp [resolve, invoke, builtin, hx, hy, hr]
 have Q := pf _ _ _ _ hr
 refine .inl ⟨_, _, v, ?_⟩
 have R := grownCap_ge W n 0 e
 have O : grownCap W n 0 e ≤ maxLen := jc W n 0 e hM
 have a6 : ∀ m, (Builtin.zeroCells c.cells m).toList = (List.replicate m (enc z)).flatten := fun m => by rw [hc, Fh]
 have A : c.cells.size = i.size := by rw [hc, cM, hk]
 have q : kU e enc i.size (.slice (some ⟨W.heap.size, 0, none⟩) n (grownCap W n 0 e)) (List.replicate n z) [(W.heap.size, .cells (Builtin.zeroCells c.cells n ++ Builtin.zeroCells c.cells (grownCap W n 0 e - n)) e (0, 0))] := by
  refine .inr ⟨W.heap.size, grownCap W n 0 e, _, by rw [ig], rfl, by simpa using R, O, ?_, ?_⟩
  ·simp only [Array.size_append, size_zeroCells, A, ← cA]
   congr 1
   omega
  ·have G : (Builtin.zeroCells c.cells n).toList.length = n * i.size := by rw [cU, size_zeroCells, A]
   rw [ig, Array.toList_append, ← G, gI, a6, jd]
 refine h _ _ _ ?_ q
 have hex : Ex dd W (W.drew.alloc (.cells (Builtin.zeroCells c.cells n ++ Builtin.zeroCells c.cells (grownCap W n 0 e - n)) e)) := ⟨rfl, rfl, rfl, uX.of Q, by simp, fun b a => heap_alloc_old W.drew _ a⟩
 have h1 := j.HP hex
 have u := h1.nd
 refine ⟨h1.os, h1.tape, h1.output, h1.drawn, h1.size, h1.na, h1.mem, fun b o a => ?_, ?_⟩
 ·simp only [aS, aO] at a
  rcases a with a | a | a
  ·exact h1.box b o (by simp [a])
  ·cases a
   refine ⟨heap_alloc_new W.drew _, ?_, .inl j.size⟩
   cases hm : μ W.heap.size with
   | none => rfl
   | some x => have := j.FK hm; omega
  ·exact h1.box b o (by simp [a])
 ·simp only [ct, bD, fj, db] at u ⊢
  refine (fX fe).2 (cK.2 ⟨fun hm => ?_, u⟩)
  rw [← ct] at hm
  obtain ⟨⟨b, o⟩, a, G⟩ := bH.1 hm
  have := j.GN a
  simp at G
  omega
end
theorem zK {p : Prop} [Decidable p] {u : Unit} (h : nG (decide p) = some u) : p := gJ (IA h)
section
variable {P : Program} {E : Nat → Value} {W : World} {d : Option Nat} {ty : TypeId} {pos : String} {af : Array Edge} {g : Option (Nat × Bool)}
 {F : Nat → Prop} {w : World} {μ : lm} {L : List (Nat × Obj)} {α : Type} {e : TypeId} {enc : α → List Value} {k : Nat} {v : Value} {l : List α} {R : List (Nat × Obj)} {dd : Bool}
def Cv {α : Type} (l : List α) (i j : Nat) : List α := l.take i ++ l.drop j ++ l.drop (l.length - (j - i))
theorem EM {α : Type} (l : List α) {i j : Nat} (a : i ≤ j) (c : j ≤ l.length) : (Cv l i j).length = l.length := by
 simp [Cv]; omega
theorem KP (hk : ∀ x, (enc x).length = k) (l : List α) (i : Nat) (c : i ≤ l.length) : (l.map enc).flatten.drop (i * k) = ((l.drop i).map enc).flatten := by
 have h1 : (l.map enc).flatten = ((l.take i).map enc).flatten ++ ((l.drop i).map enc).flatten := by rw [← fY, ← ct, fD]
 have a : ((l.take i).map enc).flatten.length = i * k := by rw [pJ hk, cy, cP c]
 rw [h1, ← a, List.drop_left]
theorem N1 {K : Value → World → Prop} (X : List (Nat × Obj)) {Y : List (Nat × Obj)} {t : TypeId} {x y : Operand} {i j : Nat} {v1 u : Value} {ti : TypeInfo} (J : ST dd F w W μ (X ++ (R ++ Y))) (h : kU e enc k v l R) (h1 : kU e enc k v1 (l.take i) R) (hk : ∀ x, (enc x).length = k) (ah : 0 < k) (ad : ∀ x, ∀ u ∈ enc x, u.oneCell' = true) (ht : P.underlying t = some (.slice e)) (hi : P.info? e = some ti) (a6 : ti.size = k) (L : i ≤ j) (hj : j ≤ l.length) (hu : EA k v j u) (hx : kG E x = v1) (hy : kG E y = u) (hK : ∀ W' v' R', ST dd F w W' μ (X ++ (R' ++ Y)) → kU e enc k v (Cv l i j) R' → kU e enc k v' (l.take i ++ l.drop j) R' → K v' W') : nH P E ⟨d, .call ⟨.builtin .append, #[x, y], #[t, t]⟩, ty, pos, af, g⟩ W K := by
 have D : ∀ (V : Value) (W' : World), (Builtin.append_ #[t, t] ty #[v1, u]).run P W = .ok V W' → (execOp (kG E) ⟨d, .call ⟨.builtin .append, #[x, y], #[t, t]⟩, ty, pos, af, g⟩).run P W = .ok (.value V) W' := by
  intro V W' hV
  show (do let d ← resolve (kG E) ⟨.builtin .append, #[x, y], #[t, t]⟩ ty; invoke d.target d.args : Sem Next).run P W = _
  simp [resolve, invoke, builtin, hx, hy, hV]
 obtain ⟨A, n, c, A', c', e1, rfl, h7, h8⟩ := hu
 rcases h with ⟨rfl, rfl, rfl⟩ | ⟨G, cap, m, rfl, rfl, q1, q2, q3, q4⟩
 ·cases e1
  have ak : v1 = .slice none 0 0 := by
   rcases h1 with ⟨h, _, _⟩ | ⟨_, _, _, _, h, _⟩
   ·exact h
   ·cases h
  subst ak
  refine .inl ⟨_, W, D (.slice none 0 0) W ?_, hK W _ [] J (by simpa [Cv] using kU.nil e enc k) (by simpa using kU.nil e enc k)⟩
  cases A' <;> simp [Builtin.append_, aQ ht, sizeOf, typeInfo, hi, Builtin.lenOf, Builtin.firstCells, loadCells, loadCellsFrom]
 ·cases e1
  obtain ⟨g1, a, z, rfl, eR, a1, a2, a3, a4⟩ : ∃ g1 a z, v1 = .slice (some ⟨g1, 0, none⟩) (l.take i).length a ∧ [(G, Obj.cells m e (0, 0))] = [(g1, .cells z e (0, 0))] ∧ (l.take i).length ≤ a ∧ a ≤ maxLen ∧ z.size = a * k ∧ z.toList.take ((l.take i).length * k) = ((l.take i).map enc).flatten := by
   rcases h1 with ⟨_, _, h⟩ | h
   ·cases h
   ·exact h
  cases eR
  have a7 : a = c := fM ah (a3.symm.trans q3)
  subst a7
  have s : (l.take i).length = i := by rw [cy]; omega
  rw [s] at a1 a4 D
  have hb := (J.box G (.cells m e (0, 0)) (by simp)).1
  by_cases ai : j < l.length
  ·obtain ⟨b, o, e2, rfl⟩ := h8 ai
   cases e2
   have O : (((l.drop j).map enc).flatten).length = (l.length - j) * k := by rw [pJ hk, dn]
   have e0 : m.toList.length = a * k := by simpa using q3
   have ar : l.length * k ≤ a * k := cn _ q1
   have aq : j * k ≤ l.length * k := cn _ hj
   have ap : i * k ≤ j * k := cn _ L
   have ao : (l.length - j) * k = l.length * k - j * k := Nat.sub_mul _ _ _
   have ae : (m.toList.take (l.length * k)).drop (j * k) = ((l.drop j).map enc).flatten := by rw [q4, KP hk l j hj]
   have U : ∀ q u, (((l.drop j).map enc).flatten)[q]? = some u → W.cell? (Addr.add ⟨G, 0 + j * k, none⟩ q) = some u := by
    intro q u hq
    rw [dm, fI W G (0 + j * k + q) m e (0, 0) hb, df]
    rw [← ae, dw] at hq
    have ab : j * k + q < l.length * k := by
     have := (bA.1 hq).1
     rw [cy] at this
     omega
    rw [dA ab] at hq
    simpa using hq
   have Z : ∀ u ∈ ((l.drop j).map enc).flatten, u.oneCell' = true := by
    intro u hu
    obtain ⟨ys, an, aj⟩ := ir.1 hu
    obtain ⟨x, _, rfl⟩ := bH.1 an
    exact ad x u aj
   have hr := run_append_room (P := P) W t ty e ti ht hi G i a m hb ⟨G, 0 + j * k, none⟩ (l.length - j) c' _ (by rw [a6, O]) U Z (by omega) (by rw [a6, O]; simp only [cU] at e0; omega)
   rw [a6, O] at hr
   have hS := ST.store (A := X) (b := G) (cs := m) (t := e) (B := Y) J (m.toList.take (i * k) ++ ((l.drop j).map enc).flatten ++ m.toList.drop (i * k + (l.length - j) * k)).toArray
   have aa : m.toList.take (i * k) = ((l.take i).map enc).flatten := a4
   have M : (m.toList.take (i * k) ++ ((l.drop j).map enc).flatten).length = (i + (l.length - j)) * k := by rw [aH, cy, O, e0, cP (by omega), cA]
   have I : (m.toList.take (i * k) ++ ((l.drop j).map enc).flatten ++ m.toList.drop (i * k + (l.length - j) * k)).length = a * k := by
    rw [aH, M, dn, e0, cA]; omega
   refine .inl ⟨_, _, D _ _ hr, hK _ _ [(G, .cells _ e (0, 0))] hS (.inr ⟨G, a, _, by rw [EM l L hj], rfl, by rw [EM l L hj]; exact q1, q2, by rw [cM, I], ?_⟩) (.inr ⟨G, a, _, by rw [aH, s, dn], rfl, by rw [aH, s, dn]; omega, q2, by rw [cM, I], ?_⟩)⟩
   ·rw [EM l L hj]
    show List.take (l.length * k) (m.toList.take (i * k) ++ ((l.drop j).map enc).flatten ++ m.toList.drop (i * k + (l.length - j) * k)) = _
    have Q : l.length * k = (i + (l.length - j)) * k + (j - i) * k := by rw [← cA]; congr 1; omega
    have hm : (l.length - (j - i)) * k = i * k + (l.length - j) * k := by rw [← cA]; congr 1; omega
    have T : (m.toList.drop (i * k + (l.length - j) * k)).take ((j - i) * k) = ((l.drop (l.length - (j - i))).map enc).flatten := by
     rw [← hm, ← KP hk l _ (by omega), ← q4, gD]
     congr 1
     rw [← Nat.sub_mul]; congr 1; omega
    rw [Q, eF, M, Nat.add_sub_cancel_left, cX (by rw [M]; omega), T, aa]
    simp [Cv, aT]
   ·rw [aH, s, dn]
    show List.take ((i + (l.length - j)) * k) (m.toList.take (i * k) ++ ((l.drop j).map enc).flatten ++ m.toList.drop (i * k + (l.length - j) * k)) = _
    rw [← M, gI, aa]
    simp
  ·have ag : j = l.length := by omega
   subst ag
   have a8 : Cv l i l.length = l := by
    unfold Cv
    rw [show l.length - (l.length - i) = i by omega, aG, cu, fD]
   refine .inl ⟨.slice (some ⟨G, 0, none⟩) i a, W, D _ W ?_, hK W _ _ J (by rw [a8]; exact .inr ⟨G, a, m, rfl, rfl, q1, q2, q3, q4⟩) (.inr ⟨G, a, m, by simp [s], rfl, by simpa [s] using a1, q2, q3, by simpa [s] using a4⟩)⟩
   cases A' <;> simp [Builtin.append_, aQ ht, sizeOf, typeInfo, hi, Builtin.lenOf, Builtin.firstCells, loadCells, loadCellsFrom, storeCells, a1]
theorem R0 {i : List α} {A : Value} {t : TypeId} {x m ih : Operand} {ik z : IntKind} {a b : Int} (J : P.underlying t = some (.slice e)) (he : ∀ w, (sizeOf e).run P w = .ok k w) (s : 0 < k) (T : kU e enc k v l R) (h1 : kU e enc k A i R) (L : kG E x = A) (I : kG E m = .int ik a) (G : kG E ih = .int z b) (ha : 0 ≤ a) (U : a ≤ b) (Y : b = (l.length : Int)) (o : a = (i.length : Int)) : ∃ u, EA k v a.toNat u ∧ ∀ W, mw P E ⟨d, .slice t x (some m) (some ih) none, ty, pos, af, g⟩ W u W := by
 subst o; subst Y
 have hle : i.length ≤ l.length := by omega
 rcases T with ⟨rfl, rfl, rfl⟩ | ⟨n, cap, M, rfl, rfl, q1, q2, q3, q4⟩
 ·have Z : A = .slice none 0 0 ∧ i = [] := by
   rcases h1 with ⟨h, Q, _⟩ | ⟨_, _, _, _, h, _⟩
   ·exact ⟨h, Q⟩
   ·cases h
  obtain ⟨rfl, rfl⟩ := Z
  refine ⟨.slice none 0 0, ⟨none, 0, 0, none, 0, rfl, rfl, bB _, fun h => absurd h (by simp)⟩, fun W => ?_⟩
  show (do pure (.value (← Instr.sliceAt t (kG E x) (some (kG E m)) (some (kG E ih)) none)) : Sem Next).run P W = _
  rw [L, I, G]
  simp [Instr.sliceAt, Instr.slice, Instr.sliceBounds, Instr.sliceBound, asIntOf, aQ J, he W]
 ·rcases h1 with ⟨_, _, h⟩ | ⟨g1, c, D, rfl, O, a1, a2, a3, a4⟩
  ·cases h
  cases O
  have j : c = cap := fM s (a3.symm.trans q3)
  subst j
  refine ⟨.slice (some (if c = i.length then ⟨n, 0, none⟩ else (Addr.add ⟨n, 0, none⟩ (i.length * k)))) (l.length - i.length) (c - i.length), ⟨_, _, _, _, _, rfl, rfl, by simpa using hle, fun y => ⟨n, 0, rfl, ?_⟩⟩, fun W => ?_⟩
  ·simp only [ew] at y ⊢
   rw [aK (by omega)]; simp [dm]
  ·show (do pure (.value (← Instr.sliceAt t (kG E x) (some (kG E m)) (some (kG E ih)) none)) : Sem Next).run P W = _
   rw [L, I, G]
   have q : (i.length : Int) ≤ (l.length : Int) ∧ (l.length : Int) ≤ (c : Int) := ⟨by omega, by omega⟩
   simp [Instr.sliceAt, Instr.slice, Instr.sliceBounds, Instr.sliceBound, asIntOf, aQ J, he W, q, hle, q1]
   split <;> rfl
theorem SR {t : TypeId} {x c ih h : Operand} {T o q : IntKind} {a b m : Int} (A : P.underlying t = some (.slice e)) (he : ∀ w, (sizeOf e).run P w = .ok k w) (O : kU e enc k v l R) (D : kG E x = v) (z : kG E c = .int T a) (y : kG E ih = .int o b) (hm : kG E h = .int q m) (ha : 0 ≤ a) (Q : a ≤ b) (U : b ≤ m) (j : m ≤ (l.length : Int)) : ∃ u, True ∧ ∀ W, mw P E ⟨d, .slice t x (some c) (some ih) (some h), ty, pos, af, g⟩ W u W := by
 obtain ⟨a, rfl⟩ : ∃ n : Nat, a = (n : Int) := ⟨a.toNat, by omega⟩
 obtain ⟨b, rfl⟩ : ∃ n : Nat, b = (n : Int) := ⟨b.toNat, by omega⟩
 obtain ⟨m, rfl⟩ : ∃ n : Nat, m = (n : Int) := ⟨m.toNat, by omega⟩
 have I : a ≤ b := by omega
 have J : b ≤ m := by omega
 rcases O with ⟨rfl, rfl, rfl⟩ | ⟨s, cap, G, rfl, rfl, Y, Z, q3, q4⟩
 ·have i : m = 0 := by simp at j; omega
  subst i
  have L : b = 0 := by omega
  subst L
  have M : a = 0 := by omega
  subst M
  refine ⟨.slice none 0 0, trivial, fun W => ?_⟩
  show (do pure (.value (← Instr.sliceAt t (kG E x) (some (kG E c)) (some (kG E ih)) (some (kG E h)))) : Sem Next).run P W = _
  rw [D, z, y, hm]
  simp [Instr.sliceAt, Instr.slice, Instr.sliceBounds, Instr.sliceBound, asIntOf, aQ A, he W]
 ·have i : m ≤ cap := by omega
  refine ⟨.slice (if m = a then some ⟨s, 0, none⟩ else some (Addr.add ⟨s, 0, none⟩ (a * k))) (b - a) (m - a), trivial, fun W => ?_⟩
  show (do pure (.value (← Instr.sliceAt t (kG E x) (some (kG E c)) (some (kG E ih)) (some (kG E h)))) : Sem Next).run P W = _
  rw [D, z, y, hm]
  simp [Instr.sliceAt, Instr.slice, Instr.sliceBounds, Instr.sliceBound, asIntOf, aQ A, he W, I, J, i]
theorem kU.SU {i c : List α} {t : Value} {R2 : List (Nat × Obj)} (m : 0 < k) (hk : ∀ x, (enc x).length = k) (I : kU e enc k v l R) (h1 : kU e enc k t c R) (q : kU e enc k v i R2) (s : c.length ≤ i.length) : kU e enc k t (i.take c.length) R2 := by
 rcases I with ⟨rfl, rfl, rfl⟩ | ⟨G, cap, A, rfl, rfl, O, P, J, Q⟩
 ·rcases h1 with ⟨rfl, rfl, _⟩ | ⟨_, _, _, _, h, _⟩
  ·rcases q with ⟨_, rfl, rfl⟩ | ⟨_, _, _, h, _⟩
   ·exact kU.nil e enc k
   ·cases h
  ·cases h
 ·rcases h1 with ⟨_, _, h⟩ | ⟨g1, a, o, rfl, D, u, a2, a3, a4⟩
  ·cases h
  cases D
  have g : a = cap := fM m (a3.symm.trans J)
  subst g
  rcases q with ⟨h, _⟩ | ⟨g2, n, d, h, rfl, L, w, y, z⟩
  ·cases h
  ·simp only [Value.slice.injEq, gG, Addr.mk.injEq] at h
   obtain ⟨⟨rfl, _, _⟩, M, rfl⟩ := h
   have j : (i.take c.length).length = c.length := by rw [cy]; omega
   refine .inr ⟨G, a, d, by rw [j], rfl, by rw [j]; exact u, w, y, ?_⟩
   rw [j, Ei hk i c.length s, ← z, eJ, cP (cn _ s)]
end
section
variable {x y : Nat × Obj} {A B C L R S : List (Nat × Obj)}
theorem Pz : (x :: A).Perm (x :: A) := .refl _
theorem Pb (h : A.Perm (x :: B)) : (y :: A).Perm (x :: y :: B) := (h.cons y).trans (.swap ..)
theorem Pr (h : A.Perm (x :: B)) : (S ++ A).Perm (x :: (S ++ B)) := (h.append_left S).trans fe
theorem Qz : (R ++ A).Perm (R ++ A) := .refl _
theorem Qb (h : A.Perm (R ++ B)) : (y :: A).Perm (R ++ (y :: B)) := (h.cons y).trans List.perm_middle.symm
theorem Qr (h : A.Perm (R ++ B)) : (S ++ A).Perm (R ++ (S ++ B)) := (h.append_left S).trans (iV S R B)
def np (L L' : List (Nat × Obj)) : Prop := ∃ M, L.Perm (L' ++ M)
theorem Sn : np L [] := ⟨L, .refl _⟩
theorem St : np L L := ⟨[], by rw [cu]⟩
theorem Sb (h : L.Perm (x :: A)) (k : np A B) : np L (x :: B) := let ⟨M, m⟩ := k; ⟨M, h.trans (m.cons x)⟩
theorem Sr (h : L.Perm (R ++ A)) (k : np A B) : np L (R ++ B) := let ⟨M, m⟩ := k; ⟨M, by rw [aT]; exact h.trans (m.append_left R)⟩
theorem Kb (k : np A B) : np (x :: A) (x :: B) := Sb Pz k
theorem Kr (k : np A B) : np (R ++ A) (R ++ B) := Sr Qz k
theorem Db (k : np A B) : np (x :: A) B := let ⟨M, m⟩ := k; ⟨x :: M, (m.cons x).trans List.perm_middle.symm⟩
theorem Dr (k : np A B) : np (R ++ A) B := let ⟨M, m⟩ := k; ⟨R ++ M, (m.append_left R).trans (iV R B M)⟩
theorem np.mem (s : np L A) : ∀ p, p ∈ A → p ∈ L := fun p hp => let ⟨M, m⟩ := s; m.mem_iff.2 (bI _ hp)
theorem ST.kz {dd : Bool} {F : Nat → Prop} {w W : World} {μ : lm} (h : ST dd F w W μ L) (s : np L A) : ST dd F w W μ A := let ⟨M, m⟩ := s; (h.perm m).sublist (List.sublist_append_left A M)
theorem rR.kz {μ : lm} {W : World} (h : rR μ L W) (s : np L A) : rR μ A W := h.sub (kY.refl _) s.mem
theorem rR.rl {μ μ' : lm} {W : World} (h : rR μ L W) (a : kY μ' μ) (s : np L A) : rR μ' A W := h.sub a s.mem
theorem Cn : L.Perm ([] ++ L) := .refl _
theorem Cb (h : L.Perm (x :: A)) (k : A.Perm (B ++ C)) : L.Perm ((x :: B) ++ C) := h.trans (k.cons x)
theorem Cr (h : L.Perm (R ++ A)) (k : A.Perm (B ++ C)) : L.Perm ((R ++ B) ++ C) := by rw [aT]; exact h.trans (k.append_left R)
theorem C0 (k : L.Perm (B ++ C)) : L.Perm (([] ++ B) ++ C) := k
theorem Tn : ([] ++ A).Perm A := .refl _
theorem Tb (h : (A ++ B).Perm C) : ((x :: A) ++ B).Perm (x :: C) := h.cons x
theorem Tr (h : (A ++ B).Perm C) : ((R ++ A) ++ B).Perm (R ++ C) := by rw [aT]; exact h.append_left R
theorem Nb (h : L.Perm (x :: A)) (k : A.Perm B) : L.Perm (x :: B) := h.trans (k.cons x)
theorem Nr (h : L.Perm (R ++ A)) (k : A.Perm B) : L.Perm (R ++ B) := h.trans (k.append_left R)
theorem Nz : L.Perm L := .refl _
theorem Y6 {R' R1 : List (Nat × Obj)} (hp : R.Perm (R' ++ R1)) : (R ++ A).Perm (R' ++ (R1 ++ A)) := by rw [← aT]; exact hp.append_right A
theorem Mh : x ∈ x :: A := .head _
theorem Mt (h : x ∈ A) : x ∈ y :: A := .tail _ h
theorem Ma (h : x ∈ A) : x ∈ R ++ A := cD _ h
theorem Ml (h : x ∈ R) : x ∈ R ++ A := bI _ h
end
section
variable {dd : Bool} {F : Nat → Prop} {w W : World} {μ : lm} {L L0 L1 Y R : List (Nat × Obj)}
theorem ST.NA (h : ST dd ll w W μ L) (s : np L L1) : sG dd [] L1 w W := let ⟨_, m⟩ := s; (h.perm m).X1
theorem ST.mL (h : ST dd (keys L0) w W μ L) (s : np L L1) : sG dd L0 L1 w W := let ⟨_, m⟩ := s; (h.perm m).X8
theorem ST.AS : ∀ {R : List (Nat × Obj)} {μ : lm}, ST dd F w W μ (R ++ Y) → ∃ μ', ST dd F w W μ' Y ∧ kY μ μ' ∧ Lo F w μ μ' ∧ ∀ b o, (b, o) ∈ R → μ' b = some o
 | [], μ, h => ⟨μ, h, kY.refl _, Lo.refl, fun _ _ h => by cases h⟩
 | (g, o) :: R, μ, h => by
  have c : ST dd F w W μ ([] ++ (g, o) :: (R ++ Y)) := h
  obtain ⟨μ', d, a2, a3, a4⟩ := ST.AS (R := R) (ST.Kz (A := []) c)
  refine ⟨μ', d, (ST.Ka (A := []) c).trans a2, (ST.Sv (A := []) c).trans a3, fun b i a => ?_⟩
  rcases aR.1 a with a | a
  ·cases a; exact a2 _ _ (aM rfl)
  ·exact a4 b i a
theorem ST.A4 {α : Type} {e' : TypeId} {enc : α → List Value} {k : Nat} {v : Value} {l : List α} (a : ST dd F w W μ (R ++ Y)) (h : kU e' enc k v l R) (hk : ∀ x, (enc x).length = k) : ∃ μ', ST dd F w W μ' Y ∧ kY μ μ' ∧ Lo F w μ μ' ∧ Sl (Pl enc) k μ' v l := by
 obtain ⟨μ', c, a2, a3, a4⟩ := ST.AS a
 exact ⟨μ', c, a2, a3, h.sl hk a4⟩
section
variable {P : Program} {n : Nat} {Q : oD} {E : Nat → Value} {V : World} {id : Nat} {l : List Oper} {A B C : List (Nat × Obj)}
theorem lG (a : rR μ A V.drew) (hm : P.follows .mixedOrders = true) (h : PX P n l.toArray Q (fun _ W => rR μ A W) l.length (Array.replicate l.length false) E V.drew) : CW P n (.region id l.toArray true) Q E V := NR _ hm h
theorem B2 (i : Nat) (a : rR μ A V.drew) (h1 : rR μ B V.drew) (hm : P.follows .mixedOrders = true) (h : PX P n l.toArray Q (fun l W => rR μ A W ∧ (l.getD i true = false → rR μ B W)) l.length (Array.replicate l.length false) E V.drew) : CW P n (.region id l.toArray true) Q E V := NR _ hm h
end
structure pP (μ : lm) (L0 : List (Nat × Obj)) (w : World) : Prop where
 H : EU L0 w
 N : (L0.map (·.1)).Nodup
 S : kY μ (sH w L0)
theorem ST.wT (h : pP μ L0 w) : ST dd (keys L0) w w μ L0 := (ST.Xc h.H h.N).mn h.S
end
section
variable {dd : Bool} {P : Program} {E : Nat → Value} {W : World} {d : Option Nat} {ty : TypeId} {pos : String} {af : Array Edge} {g : Option (Nat × Bool)} {F : Nat → Prop} {w : World} {μ : lm} {L : List (Nat × Obj)}
theorem lf {K : Value → World → Prop} {B : List (Nat × Obj)} {t : TypeId} {x y : Operand} (v : Value) {b off : Nat} {cs : Array Value} {T : TypeId} (cs' : Array Value) (a : ST dd F w W μ ((b, .cells cs T (0, 0)) :: B)) (k : kG E x = .pointer (some ⟨b, off, none⟩)) (m : kG E y = v) (c : ∀ w, (sizeOf t).run P w = .ok v.cells.size w) (h1 : ∀ u ∈ v.cells.toList, u.oneCell' = true) (j : off + v.cells.size ≤ cs.size) (i : (cs.toList.take off ++ v.cells.toList ++ cs.toList.drop (off + v.cells.size)).toArray = cs') (h : ∀ W', ST dd F w W' μ ((b, .cells cs' T (0, 0)) :: B) → K undef W') : nH P E ⟨d, .store t x y, ty, pos, af, g⟩ W K := De [] v cs' a k m c h1 j i h
end
section
variable {dd : Bool}
variable {P : Program} {n : Nat} {Q : oD} {E : Nat → Value} {W : World} {ops : Array Oper} {rest : List Oper}
 {d : Option Nat} {ty : TypeId} {pos : String} {af : Array Edge} {g : Option (Nat × Bool)}
 {F : Nat → Prop} {w : World} {μ : lm} {L : List (Nat × Obj)}
theorem my {K : Value → World → Prop} {α : Type} {e t : TypeId} {enc : α → List Value} {k a : Nat} {z v vs : Value} {l m r : List α} {R Y : List (Nat × Obj)} {x y : Operand} {i : TypeInfo} (c : ST dd F w W μ (R ++ Y)) (hk : ∀ x, (enc x).length = k) (n : 0 < k) (h1 : ∀ x, ∀ u ∈ enc x, u.oneCell' = true) (J : P.underlying t = some (.slice e)) (G : P.info? e = some i) (O : i.zero = some z) (q : z.cells.size = k) (o : i.size = k) (j : i.bytes = a) (L : kG E x = v) (M : kG E y = vs) (A : kU e enc k v l R) (I : Sl (Pl enc) k (hp W) vs m) (D : mJ a l m = some r) (h : ∀ W' s R', ST dd F w W' μ (R' ++ Y) → kU e enc k s r R' → K s W') : nH P E ⟨d, .call ⟨.builtin .append, #[x, y], #[t, t]⟩, ty, pos, af, g⟩ W K :=
 Nc [] c hk n h1 J G O q o j L M A I D h
end
section
variable {dd : Bool}
variable {P : Program} {E : Nat → Value} {W : World} {d : Option Nat} {ty : TypeId} {pos : String} {af : Array Edge} {g : Option (Nat × Bool)}
 {F : Nat → Prop} {w : World} {μ : lm} {L : List (Nat × Obj)}
theorem P8 {K : Value → World → Prop} {α : Type} {e : TypeId} {enc : α → List Value} {k : Nat} {l : List α} {f : FuncId} {fv : Operand} {ax : Array Operand} {ats : Array TypeId} {caps : Array Value} {args : List Value} (Y : List (Nat × Obj)) (a : ST dd F w W μ Y) (i : kG E fv = .func (.func f) #[] caps) (he : ∀ args w, (callFunc f args).run P w = .ok (.enter f args) w) (ha : ax.map (kG E) ++ caps = args.toArray) (c : lK dd P f args W e enc k l) (h : ∀ W' v μ' R, ST dd F w W' μ' (R ++ Y) → kY μ μ' → Lo F w μ μ' → kU e enc k v l R → K v W') : nH P E ⟨d, .call ⟨.value fv, ax, ats⟩, ty, pos, af, g⟩ W K :=
 Qk [] Y a i he ha c h
end
section
variable {dd : Bool}
variable {P : Program} {E : Nat → Value} {W : World} {d : Option Nat} {ty : TypeId} {pos : String} {af : Array Edge} {g : Option (Nat × Bool)}
 {F : Nat → Prop} {w : World} {μ : lm} {L : List (Nat × Obj)} {α : Type} {e' : TypeId} {enc : α → List Value} {k : Nat} {v : Value} {l : List α} {R : List (Nat × Obj)}
theorem zd {K : Value → World → Prop} {Y : List (Nat × Obj)} {t : TypeId} {x y : Operand} {p u : Value} {i : Nat} {x0 x1 : α} (a : ST dd F w W μ (R ++ Y)) (h : kU e' enc k v l R) (hk : ∀ x, (enc x).length = k) (h1 : ∀ x, ∀ u ∈ enc x, u.oneCell' = true) (n : kG E x = p) (o : kG E y = u) (hu : u.cells = (enc x1).toArray) (hp : E2 R k p i) (m : l[i]? = some x0) (j : ∀ w, (sizeOf t).run P w = .ok k w) (c : ∀ W' R', ST dd F w W' μ (R' ++ Y) → kU e' enc k v (l.set i x1) R' → K undef W') : nH P E ⟨d, .store t x y, ty, pos, af, g⟩ W K :=
 Qs [] a h hk h1 n o hu hp m j c
end
section
variable {dd : Bool}
variable {P : Program} {W : World} {κ : Type} {kt : TypeId} {kenc : κ → Value} {beq : κ → κ → Bool}
variable {β : Type} {vf : β → Value} {E : Nat → Value} {d : Option Nat} {ty : TypeId} {pos : String} {af : Array Edge} {g : Option (Nat × Bool)} {F : Nat → Prop} {w : World} {μ : lm} {L : List (Nat × Obj)}
theorem Ig {i : Value → World → Prop} {Y R : List (Nat × Obj)} {t e : TypeId} {m x y : Operand} {c : Value} {l : List (κ × β)} {k : κ} {v : β} (K : px P kt kenc beq) (n : P.underlying t = some (.map kt e)) (a : ST dd F w W μ (R ++ Y)) (h : mu kenc vf c l R) (hm : kG E m = c) (o : kG E x = kenc k) (q : kG E y = vf v) (j : ∀ W' R', ST dd F w W' μ (R' ++ Y) → mu kenc vf c (oh beq l k v) R' → i undef W') : nH P E ⟨d, .mapUpdate t m x y, ty, pos, af, g⟩ W i :=
 BO [] K n a h hm o q j
end
section
variable {dd : Bool}
variable {P : Program} {E : Nat → Value} {W : World} {d : Option Nat} {ty : TypeId} {pos : String} {af : Array Edge} {g : Option (Nat × Bool)}
 {F : Nat → Prop} {w : World} {μ : lm} {L : List (Nat × Obj)} {α : Type} {e' : TypeId} {enc : α → List Value} {k : Nat} {v : Value} {l : List α} {R : List (Nat × Obj)}
theorem yn {K : Value → World → Prop} (z : α) {Y : List (Nat × Obj)} {t e : TypeId} {x : Operand} {u c : Value} {i : Nat} (a : ST dd F w W μ (R ++ Y)) (h : kU e' enc k v l R) (hk : ∀ x, (enc x).length = k) (h1 : ∀ x, ∀ u ∈ enc x, u.oneCell' = true) (n : P.underlying t = some (.slice e)) (q : ∀ w, (zeroValue e).run P w = .ok c w) (hu : EA k v i u) (m : c.cells = (enc z).toArray) (o : kG E x = u) (j : ∀ W' R', ST dd F w W' μ (R' ++ Y) → kU e' enc k v (oA l i z) R' → K (.tuple #[]) W') : nH P E ⟨d, .call ⟨.builtin .clear, #[x], #[t]⟩, ty, pos, af, g⟩ W K :=
 OT z [] a h hk h1 n q hu m o j
end
section
variable {dd : Bool}
variable {κ γ : Type} {Q : Value → γ → List (Nat × Obj) → Prop} {beq : κ → κ → Bool} {kenc : κ → Value}
variable {P : Program} {W : World} {kt : TypeId} {E : Nat → Value} {d : Option Nat} {ty : TypeId} {pos : String} {af : Array Edge} {g : Option (Nat × Bool)} {F : Nat → Prop} {w : World} {μ : lm} {L : List (Nat × Obj)}
variable {κ2 β : Type} {kenc2 : κ2 → Value} {vf : β → Value} {beq2 : κ2 → κ2 → Bool} {kt2 : TypeId}
theorem Rf {i : Value → World → Prop} {Y R : List (Nat × Obj)} {t e : TypeId} {m x y : Operand} {n : Value} {c : List (κ × Value)} {l j : List (κ × List (κ2 × β))} {k : κ} {k2 : κ2} {v : β} (hk : ∀ {x y : κ}, beq x y = true → x = y) (K : px P kt2 kenc2 beq2) (s : P.underlying t = some (.map kt2 e)) (a : ST dd F w W μ (R ++ Y)) (h : ny kenc (mu kenc2 vf) n c l R) (hm : kG E m = sU beq c k (.map none)) (u : kG E x = kenc2 k2) (z : kG E y = vf v) (q : IE beq beq2 l k k2 v = some j) (o : ∀ W' R', ST dd F w W' μ (R' ++ Y) → ny kenc (mu kenc2 vf) n c j R' → i undef W') : nH P E ⟨d, .mapUpdate t m x y, ty, pos, af, g⟩ W i :=
 SD [] hk K s a h hm u z q o
end
section
variable {dd : Bool}
variable {κ γ : Type} {Q : Value → γ → List (Nat × Obj) → Prop} {beq : κ → κ → Bool} {kenc : κ → Value}
variable {P : Program} {W : World} {kt : TypeId} {E : Nat → Value} {d : Option Nat} {ty : TypeId} {pos : String} {af : Array Edge} {g : Option (Nat × Bool)} {F : Nat → Prop} {w : World} {μ : lm} {L : List (Nat × Obj)}
variable {κ2 β : Type} {kenc2 : κ2 → Value} {vf : β → Value} {beq2 : κ2 → κ2 → Bool} {kt2 : TypeId}
theorem SN {i : Value → World → Prop} {Y R R2 : List (Nat × Obj)} {t e : TypeId} {m x y : Operand} {c : Value} {n : List (κ × Value)} {l j : List (κ × γ)} {k : κ} {u : Value} {z : γ} (K : px P kt kenc beq) (v : P.underlying t = some (.map kt e)) (a : ST dd F w W μ (R ++ (R2 ++ Y))) (h : ny kenc Q c n l R) (hm : kG E m = c) (A : kG E x = kenc k) (D : kG E y = u) (s : Q u z R2) (q : I2 beq l k z = some j) (o : ∀ W' R', ST dd F w W' μ (R' ++ Y) → ny kenc Q c (oh beq n k u) j R' → i undef W') : nH P E ⟨d, .mapUpdate t m x y, ty, pos, af, g⟩ W i :=
 Ru [] K v a h hm A D s q o
end
section
variable {dd : Bool}
variable {κ γ : Type} {Q : Value → γ → List (Nat × Obj) → Prop} {beq : κ → κ → Bool} {kenc : κ → Value}
variable {P : Program} {W : World} {kt : TypeId} {E : Nat → Value} {d : Option Nat} {ty : TypeId} {pos : String} {af : Array Edge} {g : Option (Nat × Bool)} {F : Nat → Prop} {w : World} {μ : lm} {L : List (Nat × Obj)}
theorem V9 {i : Value → World → Prop} {Y R R1 : List (Nat × Obj)} {t e : TypeId} {m x y : Operand} {c : Value} {j : List (κ × Value)} {l : List (κ × γ)} {k : κ} {u : Value} {z : γ} (K : px P kt kenc beq) (q : P.underlying t = some (.map kt e)) (a : ST dd F w W μ (R ++ (R1 ++ Y))) (h : QX beq kenc Q c j l k R) (hm : kG E m = c) (s : kG E x = kenc k) (v : kG E y = u) (o : Q u z R1) (n : ∀ W' R', ST dd F w W' μ (R' ++ Y) → ny kenc Q c (oh beq j k u) (oh beq l k z) R' → i undef W') : nH P E ⟨d, .mapUpdate t m x y, ty, pos, af, g⟩ W i :=
 Xp [] K q a h hm s v o n
end
section
variable {dd : Bool}
variable {κ γ : Type} {Q : Value → γ → List (Nat × Obj) → Prop} {beq : κ → κ → Bool} {kenc : κ → Value}
variable {P : Program} {W : World} {kt : TypeId} {E : Nat → Value} {d : Option Nat} {ty : TypeId} {pos : String} {af : Array Edge} {g : Option (Nat × Bool)} {F : Nat → Prop} {w : World} {μ : lm} {L : List (Nat × Obj)}
theorem Qx {j : Value → World → Prop} {Y R : List (Nat × Obj)} {t e : TypeId} {m x : Operand} {i z : Value} {x0 : γ} {u : List (κ × Value)} {l : List (κ × γ)} {k : κ} (hk : ∀ {x y : κ}, beq x y = true ↔ x = y) (K : px P kt kenc beq) (o : P.underlying t = some (.map kt e)) (s : ∀ w, (zeroValue e).run P w = .ok z w) (c : Q z x0 []) (a : ST dd F w W μ (R ++ Y)) (h : ny kenc Q i u l R) (hm : kG E m = i) (q : kG E x = kenc k) (n : ∀ W' v st R' R1, ST dd F w W' μ (R' ++ (R1 ++ Y)) → Q v ((mi beq l k).getD x0) R1 → Mv beq kenc Q i l k st R' → j (.tuple #[v, .int .i64 (st : Nat)]) W') : nH P E ⟨d, .mapEntry t m x, ty, pos, af, g⟩ W j :=
 QM [] hk K o s c a h hm q n
end
section
variable {dd : Bool}
variable {κ γ : Type} {Q : Value → γ → List (Nat × Obj) → Prop} {beq : κ → κ → Bool} {kenc : κ → Value}
variable {P : Program} {W : World} {kt : TypeId} {E : Nat → Value} {d : Option Nat} {ty : TypeId} {pos : String} {af : Array Edge} {g : Option (Nat × Bool)} {F : Nat → Prop} {w : World} {μ : lm} {L : List (Nat × Obj)}
theorem Of {j : Value → World → Prop} {Y R R1 : List (Nat × Obj)} {t e : TypeId} {m s y : Operand} {i u : Value} {z : γ} {l : List (κ × γ)} {k : κ} {st : Nat} (hk : ∀ {x y : κ}, beq x y = true ↔ x = y) (K : px P kt kenc beq) (a : ST dd F w W μ (R ++ (R1 ++ Y))) (h : Mv beq kenc Q i l k st R) (hm : kG E m = i) (q : kG E s = .int .i64 (st : Nat)) (v : kG E y = u) (o : Q u z R1) (n : ∀ W' c R', ST dd F w W' μ (R' ++ Y) → ny kenc Q i c (oh beq l k z) R' → j undef W') : nH P E ⟨d, .entryStore t m s y, ty, pos, af, g⟩ W j :=
 Og (e := e) [] hk K a h hm q v o n
end
section
variable {dd : Bool}
variable {α : Type} {e : TypeId} {enc : α → List Value} {k : Nat} {v : Value} {l : List α} {R : List (Nat × Obj)}
variable {P : Program} {W : World} {E : Nat → Value} {d : Option Nat} {ty : TypeId} {pos : String} {af : Array Edge} {g : Option (Nat × Bool)} {F : Nat → Prop} {w : World} {μ : lm} {L : List (Nat × Obj)}
theorem OQ {K : Value → World → Prop} {t : TypeId} {a : Nat} {z vs : Value} {m r : List α} {Y : List (Nat × Obj)} {x y : Operand} {i : TypeInfo} (c : ST dd F w W μ (R ++ Y)) (hk : ∀ x, (enc x).length = k) (n : 0 < k) (h1 : ∀ x, ∀ u ∈ enc x, u.oneCell' = true) (J : P.underlying t = some (.slice e)) (G : P.info? e = some i) (O : i.zero = some z) (q : z.cells.size = k) (o : i.size = k) (j : i.bytes = a) (L : kG E x = v) (M : kG E y = vs) (A : qL e enc k v l R) (I : Sl (Pl enc) k (hp W) vs m) (D : mJ a l m = some r) (h : ∀ W' s R', ST dd F w W' μ (R' ++ Y) → qL e enc k s r R' → K s W') : nH P E ⟨d, .call ⟨.builtin .append, #[x, y], #[t, t]⟩, ty, pos, af, g⟩ W K :=
 ON [] c hk n h1 J G O q o j L M A I D h
end
section
variable {P : Program} {n : Nat} {Q : oD} {E : Nat → Value} {W : World} {ops : Array Oper} {rest : List Oper}
variable {dd : Bool} {α : Type} {enc : α → List Value} {k : Nat} {μ : lm} {v : Value}
variable {d : Option Nat} {ty : TypeId} {pos : String} {af : Array Edge} {g : Option (Nat × Bool)} {F : Nat → Prop} {w : World} {L : List (Nat × Obj)}
theorem M4 {K : Value → World → Prop} {α : Type} {e t s : TypeId} {enc : α → List Value} {k a : Nat} {v : Value} {n : Int} {z : α} {r : List α} {Y : List (Nat × Obj)} {x y : Operand} {i : TypeInfo} (c : ST dd F w W μ Y) (hk : ∀ x, (enc x).length = k) (m : 0 < k) (I : P.underlying t = some (.slice e)) (q : P.underlying s = some (.int .i64)) (G : P.info? e = some i) (M : i.zero = some v) (o : i.size = k) (j : i.bytes = a) (D : v.cells = (enc z).toArray) (J : kG E x = .slice none 0 0) (L : kG E y = .int .i64 n) (A : J1 a z n = some r) (h : ∀ W' u R', ST dd F w W' μ (R' ++ Y) → kU e enc k u r R' → K u W') : nH P E ⟨d, .call ⟨.builtin .append, #[x, y], #[t, s]⟩, ty, pos, af, g⟩ W K :=
 MT [] c hk m I q G M o j D J L A h
end
section
variable {P : Program} {E : Nat → Value} {W : World} {d : Option Nat} {ty : TypeId} {pos : String} {af : Array Edge} {g : Option (Nat × Bool)}
 {F : Nat → Prop} {w : World} {μ : lm} {L : List (Nat × Obj)} {α : Type} {e : TypeId} {enc : α → List Value} {k : Nat} {v : Value} {l : List α} {R : List (Nat × Obj)} {dd : Bool}
theorem Ny {K : Value → World → Prop} {Y : List (Nat × Obj)} {t : TypeId} {x y : Operand} {i j : Nat} {v1 u : Value} {q : TypeInfo} (c : ST dd F w W μ (R ++ Y)) (h : kU e enc k v l R) (h1 : kU e enc k v1 (l.take i) R) (hk : ∀ x, (enc x).length = k) (n : 0 < k) (a : ∀ x, ∀ u ∈ enc x, u.oneCell' = true) (G : P.underlying t = some (.slice e)) (A : P.info? e = some q) (o : q.size = k) (m : i ≤ j) (D : j ≤ l.length) (hu : EA k v j u) (I : kG E x = v1) (J : kG E y = u) (z : ∀ W' s R', ST dd F w W' μ (R' ++ Y) → kU e enc k v (Cv l i j) R' → kU e enc k s (l.take i ++ l.drop j) R' → K s W') : nH P E ⟨d, .call ⟨.builtin .append, #[x, y], #[t, t]⟩, ty, pos, af, g⟩ W K :=
 N1 [] c h h1 hk n a G A o m D hu I J z
end
section
variable {P : Program} {n : Nat} {Q : oD} {E : Nat → Value} {W : World} {ops : Array Oper} {rest : List Oper}
variable {d j t : Nat} {want : Bool} {v : Value} {ins : Go.Op} {ty : TypeId} {pos : String} {af : Array Edge} {A : Value → Prop}
theorem V (c : mw P E ⟨some d, ins, ty, pos, af, none⟩ W v W) (h : LW P n ops Q rest (nA E d v) W) (a : d < n := by decide) : LW P n ops Q (⟨some d, ins, ty, pos, af, none⟩ :: rest) E W := Ko (.inl rfl) rfl a c h
theorem VE (h : nH P E ⟨some d, ins, ty, pos, af, none⟩ W fun v W' => LW P n ops Q rest (nA E d v) W') (a : d < n := by decide) : LW P n ops Q (⟨some d, ins, ty, pos, af, none⟩ :: rest) E W := Wk (.inl rfl) rfl a h
theorem VO (h : nH P E ⟨none, ins, ty, pos, af, none⟩ W fun _ W' => LW P n ops Q rest E W') : LW P n ops Q (⟨none, ins, ty, pos, af, none⟩ :: rest) E W := X9 (.inl rfl) rfl h
theorem VQ (c : ∃ p, A p ∧ ∀ W, mw P E ⟨some d, ins, ty, pos, af, none⟩ W p W) (h : ∀ p, A p → LW P n ops Q rest (nA E d p) W) (a : d < n := by decide) : LW P n ops Q (⟨some d, ins, ty, pos, af, none⟩ :: rest) E W := XD (.inl rfl) rfl a c h
theorem Vg (c : (ops[j]?).bind (·.dst) = some t) (a : E t = .bool want) (i : mw P E ⟨some d, ins, ty, pos, af, some (j, want)⟩ W v W) (h : LW P n ops Q rest (nA E d v) W) (k : t < n := by decide) (g : d < n := by decide) : LW P n ops Q (⟨some d, ins, ty, pos, af, some (j, want)⟩ :: rest) E W := Ko (.inr ⟨j, want, t, rfl, c, k, a⟩) rfl g i h
theorem Sz (c : (ops[j]?).bind (·.dst) = some t) (a : E t = .bool want) (h : nH P E ⟨some d, ins, ty, pos, af, some (j, want)⟩ W fun v W' => LW P n ops Q rest (nA E d v) W') (i : t < n := by decide) (g : d < n := by decide) : LW P n ops Q (⟨some d, ins, ty, pos, af, some (j, want)⟩ :: rest) E W := Wk (.inr ⟨j, want, t, rfl, c, i, a⟩) rfl g h
theorem Yw (c : (ops[j]?).bind (·.dst) = some t) (a : E t = .bool want) (i : ∃ p, A p ∧ ∀ W, mw P E ⟨some d, ins, ty, pos, af, some (j, want)⟩ W p W) (h : ∀ p, A p → LW P n ops Q rest (nA E d p) W) (k : t < n := by decide) (g : d < n := by decide) : LW P n ops Q (⟨some d, ins, ty, pos, af, some (j, want)⟩ :: rest) E W := XD (.inr ⟨j, want, t, rfl, c, k, a⟩) rfl g i h
theorem Vn (c : (ops[j]?).bind (·.dst) = some t) (a : E t = .bool (!want)) (h : LW P n ops Q rest (nA E d undef) W) (i : t < n := by decide) (g : d < n := by decide) : LW P n ops Q (⟨some d, ins, ty, pos, af, some (j, want)⟩ :: rest) E W := XU rfl g rfl c i a h
theorem Vu (c : (ops[j]?).bind (·.dst) = some t) (a : E t = undef) (h : LW P n ops Q rest (nA E d undef) W) (i : t < n := by decide) (g : d < n := by decide) : LW P n ops Q (⟨some d, ins, ty, pos, af, some (j, want)⟩ :: rest) E W := WU rfl g rfl c i a h
end
section
variable {P : Program} {n : Nat} {Q : oD} {E : Nat → Value} {W : World} {ops : Array Oper} {S : Array Bool → World → Prop} {fuel : Nat} {listed : Array Bool} {μ : lm} {B : List (Nat × Obj)}
variable {d j t : Nat} {want : Bool} {v : Value} {ins : Go.Op} {ty : TypeId} {pos : String} {af : Array Edge} {A : Value → Prop}
theorem X (i : Nat) (c : ops[i]? = some ⟨some d, ins, ty, pos, af, none⟩) (a : S (listed.setIfInBounds i true) W) (j : ∀ {W}, mw P E ⟨some d, ins, ty, pos, af, none⟩ W v W) (h : PX P n ops Q S fuel (listed.setIfInBounds i true) (nA E d v) W) (hk : Er ops listed i = true := by kernel_rfl) (hm : ∀ l w, S (l.setIfInBounds i true) w → S l w := by exact fun _ _ h => h) (g : d < n := by decide) : PX P n ops Q S (fuel + 1) listed E W := nR i c hk (.inl rfl) rfl g hm a (fun _ _ _ _ => j) h
theorem XH (i : Nat) (c : ops[i]? = some ⟨some d, ins, ty, pos, af, none⟩) (a : rR μ B W) (j : ∀ W, rR μ B W → mw P E ⟨some d, ins, ty, pos, af, none⟩ W v W) (h : PX P n ops Q (fun _ W => rR μ B W) fuel (listed.setIfInBounds i true) (nA E d v) W) (hk : Er ops listed i = true := by kernel_rfl) (g : d < n := by decide) : PX P n ops Q (fun _ W => rR μ B W) (fuel + 1) listed E W := nR i c hk (.inl rfl) rfl g (fun _ _ h => h) a (fun _ W _ h => j W h) h
theorem XQ (i : Nat) (c : ops[i]? = some ⟨some d, ins, ty, pos, af, none⟩) (a : S (listed.setIfInBounds i true) W) (j : ∃ p, A p ∧ ∀ W, mw P E ⟨some d, ins, ty, pos, af, none⟩ W p W) (h : ∀ p, A p → PX P n ops Q S fuel (listed.setIfInBounds i true) (nA E d p) W) (hk : Er ops listed i = true := by kernel_rfl) (hm : ∀ l w, S (l.setIfInBounds i true) w → S l w := by exact fun _ _ h => h) (g : d < n := by decide) : PX P n ops Q S (fuel + 1) listed E W := FM i c hk (.inl rfl) rfl g hm a j h
theorem XE (i : Nat) (a : ops[i]? = some ⟨some d, ins, ty, pos, af, none⟩) (h : nH P E ⟨some d, ins, ty, pos, af, none⟩ W fun v W' => S (listed.setIfInBounds i true) W' ∧ PX P n ops Q S fuel (listed.setIfInBounds i true) (nA E d v) W') (g : Region.ready .any ops listed = [i] := by kernel_rfl) (c : d < n := by decide) : PX P n ops Q S (fuel + 1) listed E W := Qv i a g (.inl rfl) rfl c h
theorem XO (i : Nat) (a : ops[i]? = some ⟨none, ins, ty, pos, af, none⟩) (h : nH P E ⟨none, ins, ty, pos, af, none⟩ W fun _ W' => S (listed.setIfInBounds i true) W' ∧ PX P n ops Q S fuel (listed.setIfInBounds i true) E W') (c : Region.ready .any ops listed = [i] := by kernel_rfl) : PX P n ops Q S (fuel + 1) listed E W := X0 i a c (.inl rfl) rfl h
theorem Xg (i : Nat) (g : ops[i]? = some ⟨some d, ins, ty, pos, af, some (j, want)⟩) (k : (ops[j]?).bind (·.dst) = some t) (a : E t = .bool want) (c : S (listed.setIfInBounds i true) W) (q : ∀ {W}, mw P E ⟨some d, ins, ty, pos, af, some (j, want)⟩ W v W) (h : PX P n ops Q S fuel (listed.setIfInBounds i true) (nA E d v) W) (hk : Er ops listed i = true := by kernel_rfl) (hm : ∀ l w, S (l.setIfInBounds i true) w → S l w := by exact fun _ _ h => h) (o : t < n := by decide) (m : d < n := by decide) : PX P n ops Q S (fuel + 1) listed E W := nR i g hk (.inr ⟨j, want, t, rfl, k, o, a⟩) rfl m hm c (fun _ _ _ _ => q) h
theorem uW (i : Nat) (g : ops[i]? = some ⟨some d, ins, ty, pos, af, some (j, want)⟩) (k : (ops[j]?).bind (·.dst) = some t) (a : E t = .bool want) (c : rR μ B W) (q : ∀ W, rR μ B W → mw P E ⟨some d, ins, ty, pos, af, some (j, want)⟩ W v W) (h : PX P n ops Q (fun _ W => rR μ B W) fuel (listed.setIfInBounds i true) (nA E d v) W) (hk : Er ops listed i = true := by kernel_rfl) (o : t < n := by decide) (m : d < n := by decide) : PX P n ops Q (fun _ W => rR μ B W) (fuel + 1) listed E W := nR i g hk (.inr ⟨j, want, t, rfl, k, o, a⟩) rfl m (fun _ _ h => h) c (fun _ W _ h => q W h) h
theorem DH (i : Nat) (c : ops[i]? = some ⟨some d, ins, ty, pos, af, some (j, want)⟩) (g : (ops[j]?).bind (·.dst) = some t) (a : E t = .bool want) (h : nH P E ⟨some d, ins, ty, pos, af, some (j, want)⟩ W fun v W' => S (listed.setIfInBounds i true) W' ∧ PX P n ops Q S fuel (listed.setIfInBounds i true) (nA E d v) W') (m : Region.ready .any ops listed = [i] := by kernel_rfl) (o : t < n := by decide) (k : d < n := by decide) : PX P n ops Q S (fuel + 1) listed E W := Qv i c m (.inr ⟨j, want, t, rfl, g, o, a⟩) rfl k h
theorem Xn (i : Nat) (g : ops[i]? = some ⟨some d, ins, ty, pos, af, some (j, want)⟩) (k : (ops[j]?).bind (·.dst) = some t) (a : E t = .bool (!want)) (c : S (listed.setIfInBounds i true) W) (h : PX P n ops Q S fuel (listed.setIfInBounds i true) (nA E d undef) W) (hk : Er ops listed i = true := by kernel_rfl) (hm : ∀ l w, S (l.setIfInBounds i true) w → S l w := by exact fun _ _ h => h) (o : t < n := by decide) (m : d < n := by decide) : PX P n ops Q S (fuel + 1) listed E W := Ye i g hk rfl k o a rfl m hm c h
theorem Xu (i : Nat) (g : ops[i]? = some ⟨some d, ins, ty, pos, af, some (j, want)⟩) (k : (ops[j]?).bind (·.dst) = some t) (a : E t = undef) (c : S (listed.setIfInBounds i true) W) (h : PX P n ops Q S fuel (listed.setIfInBounds i true) (nA E d undef) W) (hk : Er ops listed i = true := by kernel_rfl) (hm : ∀ l w, S (l.setIfInBounds i true) w → S l w := by exact fun _ _ h => h) (o : t < n := by decide) (m : d < n := by decide) : PX P n ops Q S (fuel + 1) listed E W := Wj i g hk rfl k o a rfl m hm c h
end
end Go.Proofs.YtbnbdigcbldfhaaGreat
