/- a part of a proof of LintHolds -/
import Derived.WalkKit
import Derived.WalkLawsBesides
import Derived.TacticsIn
import Derived.OrdersIn
import Derived.ControlIn
import Derived.Maps.AppendAt
import Derived.OrdersHeld
import Derived.Laws.IdiomStrings
import Derived.Maps.RangeRun
import Derived.Lib.BytesEntry
import Derived.Lib.Bytealg
import Derived.Laws.Externs
import Derived.ChangeKeysEq
import Derived.Deep.AppendSrc
import Derived.Laws.MakeOwn
set_option linter.all false
namespace Go.Proofs.YtjjjihkifgdhgaaGreatDoor
open Go.RowKit
def aA := @Option.bind_some
def aB := @Bool.false_eq_true
def aC := @List.length_append
def aG := @if_false
def aH := @List.length_cons
def aI := @List.append_assoc
def aJ := @if_true
def aK := @List.mem_cons
def aM := @Nat.exists_eq_succ_of_ne_zero
def aN := @List.mem_append
def aO := @List.eq_nil_of_length_eq_zero
def aP := @Int.natCast_nonneg
def aQ := @Bool.and_eq_true
def aR := @Nat.le_refl
def aS := @run_underlying
def aT := @List.cons.injEq
def aU := @List.drop_length
def aV := @beq_self_eq_true
def aW := @List.getElem?_eq_some_iff
def aY := @if_neg
def aZ := @if_pos
def bo := @List.append_nil
def bA := @congrArg
def bD := @List.nil_append
def bE := @decide_eq_true_eq
def bF := @List.map_cons
def bH := @List.mem_map
def bI := @Bool.eq_iff_iff
def bK := @List.mem_singleton
def bL := @List.flatten_cons
def bM := @Result.andThen_ok
def bN := @Nat.lt_succ_self
def bO := @List.cons_append
def bP := @List.length_nil
def bQ := @List.nodup_append
def bR := @decide_true
def bT := @decide_false
def bU := @Bool.not_true
def bV := @List.Perm.append_left
def bW := @List.Perm.refl
def bY := @List.map_append
def bZ := @Sem.run_bind
def cA := @List.pairwise_cons
def cC := @List.mem_append_left
def cJ := @Bool.not_false
def cK := @List.flatten_append
def cM := @Nat.add_mul
def cN := @Nat.mul_le_mul_right
def cP := @List.pairwise_append
def cR := @List.mem_filter
def cT := @List.mem_of_getElem?
def cU := @List.length_take
def cV := @List.not_mem_nil
def cW := @Calls.mono
def cX := @List.eq_nil_or_concat
def cY := @List.nodup_cons
def cZ := @List.length_map
def dl := @List.flatten_nil
def dm := @Sem.run_pure
def dp := @Int.toNat_natCast
def dq := @List.getElem?_take_of_lt
def dr := @and_true
def dt := @Array.length_toList
def dv := @Array.getElem?_eq_some_iff
def dw := @List.size_toArray
def dx := @Bool.true_and
def dy := @Nat.le_trans
def dz := @Addr.add_lit
def dA := @List.take_of_length_le
def dB := @Nat.min_eq_left
def dC := @List.getElem?_eq_getElem
def dD := @List.filter_cons
def dF := @Array.getElem?_modify
def dG := @Array.getElem?_toList
def dH := @List.concat_eq_append
def dI := @Nat.zero_add
def dK := @DataW.trod_struct
def dM := @List.getElem?_drop
def dO := @List.mem_append_right
def dP := @ByteArray.size_append
def dR := @Bool.eq_false_or_eq_true
def dT := @Nat.lt_of_lt_of_le
def dU := @List.any_eq_true
def dV := @List.findIdx?_eq_some_iff_getElem
def dW := @Nat.add_assoc
def dZ := @Option.map_some
def ed := @List.perm_append_comm
def ee := @Nat.eq_zero_or_pos
def ei := @List.all_eq_true
def ej := @List.length_zipIdx
def ek := @List.sum_cons
def ep := @Nat.zero_le
def eu := @List.ext_getElem?
def ev := @List.length_eq_zero_iff
def ew := @List.getElem?_map
def ey := @Array.getD_eq_getD_getElem?
def ez := @List.map_nil
def eA := @List.map_map
def eE := @List.perm_middle
def eF := @List.getElem?_append_right
def eG := @List.findIdx?_cons
def eH := @List.length_filter_le
def eJ := @Classical.byContradiction
def eK := @List.getElem?_set
def eL := @List.mem_cons_of_mem
def eP := @ByteArray.toList_eq
def eQ := @List.take_append
def eS := @or_false
def eU := @Bool.false_and
def eV := @List.getElem?_take
def fa := @Bool.or_eq_true
def fh := @List.any_cons
def fi := @List.singleton_append
def fj := @List.getElem?_eq_none
def fk := @Function.comp_def
def fl := @List.pairwise_map
def fp := @List.perm_append_comm_assoc
def fq := @Bool.not_eq_true'
def ft := @cell_of_row
def fu := @List.getElem?_append
def fw := @List.perm_append_singleton
def fz := @List.length_drop
def fC := @Bool.not_eq_true
def fD := @List.getElem?_append_left
def fE := @List.findIdx?_eq_none_iff
def fF := @List.Perm.nodup_iff
def fG := @run_callFunc_extern
def fH := @List.filter_eq_self
def fI := @ByteArray.ext
def fM := @List.foldl_cons
def fN := @List.find?_cons
def fO := @Option.some.inj
def fQ := @grownCap_le_maxLen
def fR := @beq_iff_eq
def fS := @eq_iff_iff
def fT := @List.find?_eq_none
def fU := @List.getElem?_cons_zero
def fV := @List.pairwise_mergeSort
def fY := @List.pairwise_singleton
def fZ := @List.take_take
def ga := @List.findIdx?_map
def gb := @Nat.add_zero
def gd := @Option.some.injEq
def gh := @List.Perm.append_right
def gi := @List.take_left
def gj := @Go.Lib.strCells_length
def gn := @Bool.and_assoc
def gp := @Bool.not_not
def gq := @List.flatMap_cons
def gr := @List.getElem?_toArray
def gu := @List.take_append_drop
def gv := @Option.getD_some
def gA := @List.all_cons
def gB := @List.findIdx?_append
def gD := @List.forall_mem_cons
def gG := @List.length_set
def gI := @List.filter_nil
def gJ := @Array.toList_append
def gK := @List.mergeSort_perm
def gL := @List.flatMap_append
def gM := @List.take_length_add_append
def gQ := @List.drop_take
def gS := @List.map_replicate
def gT := @size_zeroCells
def gU := @List.map_mergeSort
def ic := @List.filter_append
def ie := @UInt8.toNat_lt
def ig := @Nat.le_succ
def ij := @run_storeCells_at
def iq := @Array.size_append
def ir := @Nat.mul_one
def iB := @UInt8.ofNat_toNat
def iC := @List.find?_append
def iD := @of_decide_eq_true
def iG := @Bool.and_self
def iH := @List.mem_flatten
def iI := @List.zipIdx_cons
def iO := @List.mem_flatMap
def iP := @callsIn_wide
def iW := @Oper.upon_value
def iX := @Oper.upon_enter
def ja := @grownCap_ge
def jb := @Nat.one_mul
def jc := @getD_set_ne
def jh := @wpIn_mono
def ji := @mem_ready
class Md where
 ro : Option Nat
 D : List Deferred
instance zD : Md := ⟨none, []⟩
theorem xQ {ro : Option Nat} {P : Program} {ρ : Operand → Value} {o : Oper} {W W' : World} {x : Next} (h : (execOp ρ o).run P W = .ok x W') (j : ∀ d, x ≠ .defer d) : (Oper.semAt ro ρ o).run P W = .ok x W' := by
 cases ro with
 | none => exact h
 | some l =>
  rw [Oper.semAt_eq]
  ·exact h
  ·intro c i
   have e : (execOp ρ o) = (resolve ρ c o.type >>= fun d => pure (Next.defer d)) := by
    unfold execOp; rw [i]
   rw [e, bZ] at h
   cases b : (resolve ρ c o.type).run P W with
   | ok d w => rw [b, bM] at h; cases h; exact j d rfl
   | halt z w => rw [b] at h; cases h
def Md.F (M : Md) : Fence := { Fence.wide with round := M.ro }
theorem LP {M : Md} {n : Nat} {P : Program} {f : FuncId} {args : Array Value} {w : World} {R : Ending → World → Prop} : CallsIn M.F n P f args w R ↔ Calls P f args w R := iP
theorem GD {M : Md} {n : Nat} {P : Program} {f : FuncId} {args : Array Value} {w : World} {R : Ending → World → Prop} (h : Calls P f args w R) : (M.F.depth.isSome = true → 1 ≤ n) ∧ CallsIn M.F (n - 1) P f args w R :=
 ⟨fun e => (nomatch (show (none : Option Nat).isSome = true from e)), LP.2 h⟩
variable [M : Md]
def nA (E : Nat → Value) (d : Nat) (v : Value) : Nat → Value := fun t => if t = d then v else E t
def jv (E : Nat → Value) : Operand → Value
 | .tmp t => E t
 | .const v => v
 | .global g => .pointer (some ⟨g, 0, none⟩)
 | .func f => .func (.func f) #[] #[]
def Ag (n : Nat) (a : Act) (E : Nat → Value) : Prop := a.tmps.size = n ∧ a.defers = M.D ∧ ∀ t, a.tmps.getD t undef = E t
section
variable {n : Nat} {a : Act} {E : Nat → Value}
theorem Ag.eval (h : Ag n a E) : a.eval = jv E := by
 funext x
 cases x with
 | tmp t => exact h.2.2 t
 | const v => rfl
 | global g => rfl
 | func f => rfl
theorem Ag.put (h : Ag n a E) {d : Nat} (j : d < n) (v : Value) : Ag n (a.put (some d) v) (nA E d v) := by
 refine ⟨by simp [Act.put, h.1], h.2.1, fun t => ?_⟩
 have i := h.2.2 t
 simp only [Act.put, nA]
 by_cases b : t = d
 ·subst b
  simp [h.1, j]
 ·have : ¬ d = t := fun e => b e.symm
  rw [aY b, ← i]
  simp [ey, this]
theorem Ag.xZ (h : Ag n a E) (v : Value) : Ag n (a.put none v) E := h
theorem Ag.yield (h : Ag n a E) {ops : Array Oper} {j t : Nat} {b : Bool} (i : (ops[j]?).bind (·.dst) = some t) (m : t < n) (p : E t = .bool b) : yielded ops a.tmps j = some b := by
 have d := h.2.2 t
 have l : a.tmps[t]? = some (E t) := by
  rw [← d]
  simp [ey, h.1, m]
 simp [yielded, i, l, p]
end
abbrev pk := Exit → (Nat → Value) → World → Prop
def E0 : Nat → Value := fun _ => undef
def lift (n : Nat) (Q : pk) : Exit → Act → World → Prop
 | .panic c, a, w => a.defers = M.D ∧ Q (.panic c) E0 w
 | .outgrown, _, _ => False
 | e, a, w => ∃ E, Ag n a E ∧ Q e E w
theorem Ic {n : Nat} {Q : pk} {c : List PanicEntry} {a : Act} {d : Option Nat} {v : Value} {w : World} (h : lift n Q (.panic c) (a.put d v) w) : lift n Q (.panic c) a w := by
 cases d <;> exact h
def CW (P : Program) (n : Nat) (c : Code) (Q : pk) (E : Nat → Value) (W : World) : Prop := ∀ a, Ag n a E → c.wpIn M.F 0 P (lift n Q) a W
def LW (P : Program) (n : Nat) (ops : Array Oper) (Q : pk) (l : List Oper) (E : Nat → Value) (W : World) : Prop := ∀ a, Ag n a E → wpListIn M.F 0 P ops (lift n Q) l a W
def pD (K : (Nat → Value) → World → Prop) (Q : pk) : pk
 | .normal, E, W => K E W
 | e, E, W => Q e E W
def uU (id : Nat) (Q : pk) : pk
 | .exit j, E, W => if j = id then Q .normal E W else Q (.exit j) E W
 | e, E, W => Q e E W
section
variable {P : Program} {n : Nat} {Q : pk} {E : Nat → Value} {W : World} {c x y : Code} {ops : Array Oper} {rest : List Oper} {o : Oper}
theorem Gl {Q' : pk} (h : CW P n c Q E W) (i : ∀ e E W, Q e E W → Q' e E W) : CW P n c Q' E W := fun a ha =>
 jh (h a ha) (fun e _ _ h => by
  cases e with
  | panic c => exact ⟨h.1, i _ _ _ h.2⟩
  | outgrown => exact h
  | _ => obtain ⟨E', b, d⟩ := h; exact ⟨E', b, i _ _ _ d⟩)
theorem jI (h : CW P n x (pD (fun E W => CW P n y Q E W) Q) E W) : CW P n (.seq x y) Q E W := fun a ha =>
 wpIn_seq (jh (h a ha) (fun e d j h => by
  cases e with
  | normal => obtain ⟨E', b, i⟩ := h; exact i d b
  | _ => exact h))
theorem lE (h : Q .normal E W) : CW P n .skip Q E W := fun _ ha => wpIn_skip ⟨E, ha, h⟩
theorem ky (h : Q .ret E W) : CW P n .ret Q E W := fun _ ha => wpIn_ret ⟨E, ha, h⟩
theorem nv {id : Nat} (h : Q (.exit id) E W) : CW P n (.exit id) Q E W := fun _ ha => wpIn_exit ⟨E, ha, h⟩
theorem lK {id : Nat} (h : CW P n c (uU id Q) E W) : CW P n (.block id c) Q E W := fun a ha =>
 wpIn_block (jh (h a ha) (fun e l m h => by
  cases e with
  | exit j =>
   obtain ⟨E', b, d⟩ := h
   simp only [Exit.inBlock]
   simp only [uU] at d
   split at d
   ·rename_i i; rw [aZ i]; exact ⟨E', b, d⟩
   ·rename_i i; rw [aY i]; exact ⟨E', b, d⟩
  | _ => exact h))
theorem KO {co : Operand} {b : Bool} (d : jv E co = .bool b) (j : b = true → CW P n x Q E W) (i : b = false → CW P n y Q E W) : CW P n (.cond co x y) Q E W := fun a ha => by
 refine wpIn_cond_split (t := b) (by rw [ha.eval]; exact d) (fun h => j h a ha) (fun h => i h a ha)
theorem vl {co : Operand} (b : jv E co = .bool true) (h : CW P n x Q E W) : CW P n (.cond co x y) Q E W := KO b (fun _ => h) (fun h => by cases h)
theorem pF {co : Operand} (b : jv E co = .bool false) (h : CW P n y Q E W) : CW P n (.cond co x y) Q E W := KO b (fun h => by cases h) (fun _ => h)
theorem jF {id : Nat} {l : List Oper} (h : LW P n l.toArray Q l E W) : CW P n (.region id l.toArray false) Q E W := fun a ha => wpIn_region_lit (h a ha)
theorem kd (h : Q .normal E W) : LW P n ops Q [] E W := fun _ ha => wpListIn_nil ⟨E, ha, h⟩
theorem FV {P : Program} {F : Fence} {n : Nat} {c : Code} {Q : Exit → Act → World → Prop} {a : Act} {w : World} (I : Nat → Act → World → Prop) (m : Nat) (l : I m a w) (round : ∀ m a w, I m a w → c.wpIn F n P (Exit.then (fun p q => ∃ i, i < m ∧ I i p q) Q) a w) : (Code.loop c).wpIn F n P Q a w := by
 classical
 let J : Act → World → Prop := fun a w => ∃ m, I m a w
 have least : ∀ a w, J a w → ∃ m, I m a w ∧ ∀ k, I k a w → m ≤ k := fun a w ⟨m, hm⟩ => by
  induction m using Nat.strongRecOn with
  | _ m ih =>
   by_cases h : ∃ k, k < m ∧ I k a w
   ·obtain ⟨k, hk, b⟩ := h; exact ih k hk b
   ·exact ⟨m, hm, fun k b => Nat.le_of_not_lt fun d => h ⟨k, d, b⟩⟩
 let μ : Act → World → Nat := fun a w => if h : J a w then Classical.choose (least a w h) else 0
 have j : ∀ a w (h : J a w), I (μ a w) a w ∧ ∀ k, I k a w → μ a w ≤ k := fun a w h => by
  have e : μ a w = Classical.choose (least a w h) := dif_pos h
  rw [e]; exact Classical.choose_spec (least a w h)
 refine wpIn_loop J μ ⟨m, l⟩ fun a w r => jh (round _ a w (j a w r).1) fun e p q h => ?_
 cases e with
 | normal => obtain ⟨i, d, b⟩ := h; exact ⟨⟨i, b⟩, Nat.lt_of_le_of_lt ((j p q ⟨i, b⟩).2 i b) d⟩
 | _ => exact h
theorem nI (I : Nat → (Nat → Value) → World → Prop) (m : Nat) (b : I m E W) (round : ∀ m E W, I m E W → CW P n c (pD (fun E' W' => ∃ d, d < m ∧ I d E' W') Q) E W) : CW P n (.loop c) Q E W := fun a ha =>
 FV (fun m a w => ∃ E, Ag n a E ∧ I m E w) m ⟨E, ha, b⟩ (fun m a w ⟨E, ha, p⟩ =>
  jh (round m E w p a ha) (fun e q r h => by
   cases e with
   | normal => obtain ⟨E', j, d, l, i⟩ := h; exact ⟨d, l, E', j, i⟩
   | _ => exact h))
def rf (n : Nat) (ops : Array Oper) (E : Nat → Value) (o : Oper) : Prop :=
 o.guard = none ∨ ∃ j want t, o.guard = some (j, want) ∧ (ops[j]?).bind (·.dst) = some t ∧ t < n ∧ E t = .bool want
theorem rf.of {a : Act} (h : rf n ops E o) (ha : Ag n a E) : Region.wanted o (yielded ops a.tmps) = true := by
 rcases h with h | ⟨j, want, t, d, i, l, b⟩
 ·simp [Region.wanted, h]
 ·simp [Region.wanted, d, ha.yield i l b]
theorem Mc {d : Nat} {v : Value} {W' : World} (hw : rf n ops E o) (b : o.dst = some d) (i : d < n) (j : (execOp (jv E) o).run P W = .ok (.value v) W') (h : LW P n ops Q rest (nA E d v) W') : LW P n ops Q (o :: rest) E W := fun a ha => by
 unfold wpListIn
 rw [aZ (hw.of ha)]
 unfold Oper.wpIn
 refine ⟨fun _ _ => trivial, ?_⟩
 rw [ha.eval, xQ j (by simp), Oper.uponIn_value, b]
 exact h _ (ha.put i v)
theorem M5 {W' : World} (hw : rf n ops E o) (b : o.dst = none) (d : (execOp (jv E) o).run P W = .ok .skip W') (h : LW P n ops Q rest E W') : LW P n ops Q (o :: rest) E W := fun a ha => by
 unfold wpListIn
 rw [aZ (hw.of ha)]
 unfold Oper.wpIn
 refine ⟨fun _ _ => trivial, ?_⟩
 rw [ha.eval, xQ d (by simp), Oper.uponIn_skip, b]
 exact h _ (ha.xZ _)
theorem NA {f : FuncId} {args : Array Value} {d : Nat} (hw : rf n ops E o) (i : o.dst = some d) (l : d < n) (m : (execOp (jv E) o).run P W = .ok (.enter f args) W) (h : Calls P f args W fun e b => ∃ v, e = .returned v ∧ LW P n ops Q rest (nA E d v) b) : LW P n ops Q (o :: rest) E W := fun a ha => by
 unfold wpListIn
 rw [aZ (hw.of ha)]
 unfold Oper.wpIn
 refine ⟨fun _ _ => trivial, ?_⟩
 rw [ha.eval, xQ m (by simp), Oper.uponIn_enter]
 refine GD (cW h ?_)
 rintro e b ⟨v, rfl, j⟩
 simp only [i]
 exact j _ (ha.put l v)
theorem QU {d j t : Nat} {want : Bool} (i : o.dst = some d) (p : d < n) (l : o.guard = some (j, want)) (m : (ops[j]?).bind (·.dst) = some t) (q : t < n) (b : E t = .bool (!want)) (h : LW P n ops Q rest (nA E d undef) W) : LW P n ops Q (o :: rest) E W := fun a ha => by
 unfold wpListIn
 have r := ha.yield m q b
 rw [aY (by simp [Region.wanted, l, r])]
 rw [i]
 exact ⟨fun _ _ => trivial, h _ (ha.put p _)⟩
end
end Go.Proofs.YtjjjihkifgdhgaaGreatDoor
namespace Go.Proofs.YtjjjihkifgdhgaaGreatDoor
open Go.RowKit
variable {dd : Bool}
abbrev jN := Nat → Option Obj
def hp (W : World) : jN := fun b => W.heap[b]?
def ry (dd : Bool) (a b : Nat) : Prop := dd = true → a ≤ b
theorem ry.of {dd : Bool} {a b : Nat} (h : a ≤ b) : ry dd a b := fun _ => h
theorem ry.trans {dd : Bool} {a b c : Nat} (h : ry dd a b) (k : ry dd b c) : ry dd a c := fun e => dy (h e) (k e)
structure Ex (dd : Bool) (w W : World) : Prop where
 os : W.os = w.os
 tape : W.tape = w.tape
 output : W.output = w.output
 drawn : ry dd w.drawn W.drawn
 size : w.heap.size ≤ W.heap.size
 lF : ∀ b, b < w.heap.size → W.heap[b]? = w.heap[b]?
theorem Ex.refl (w : World) : Ex dd w w := ⟨rfl, rfl, rfl, ry.of (aR _), aR _, fun _ _ => rfl⟩
theorem Ex.trans {a b c : World} (h : Ex dd a b) (k : Ex dd b c) : Ex dd a c :=
 ⟨k.os.trans h.os, k.tape.trans h.tape, k.output.trans h.output, ry.trans h.drawn k.drawn, dy h.size k.size, fun i d => (k.lF i (dT d h.size)).trans (h.lF i d)⟩
theorem Ex.drew (w : World) : Ex dd w w.drew := ⟨rfl, rfl, rfl, ry.of (ig _), aR _, fun _ _ => rfl⟩
theorem Ex.alloc (w : World) (o : Obj) : Ex dd w (w.alloc o) := ⟨rfl, rfl, rfl, ry.of (aR _), by show w.heap.size ≤ (w.heap.push o).size; simp, fun k hk => Below.heap_alloc w o k hk⟩
theorem Ex.lX {w W : World} (h : Ex true w W) : Ex dd w W := ⟨h.os, h.tape, h.output, ry.of (h.drawn rfl), h.size, h.lF⟩
def jT (μ μ' : jN) : Prop := ∀ b o, μ b = some o → μ' b = some o
theorem jT.refl (μ : jN) : jT μ μ := fun _ _ h => h
theorem jT.trans {a b c : jN} (h : jT a b) (k : jT b c) : jT a c := fun x o d => k x o (h x o d)
structure ST (dd : Bool) (F : Nat → Prop) (w W : World) (μ : jN) (L : List (Nat × Obj)) : Prop where
 os : W.os = w.os
 tape : W.tape = w.tape
 output : W.output = w.output
 drawn : ry dd w.drawn W.drawn
 size : w.heap.size ≤ W.heap.size
 lF : ∀ b, b < w.heap.size → ¬ F b → W.heap[b]? = w.heap[b]?
 mem : ∀ b o, μ b = some o → W.heap[b]? = some o
 box : ∀ b o, (b, o) ∈ L → W.heap[b]? = some o ∧ μ b = none ∧ (w.heap.size ≤ b ∨ F b)
 nd : (L.map (·.1)).Nodup
def lB : Nat → Prop := fun _ => False
theorem ST.start (w : World) : ST dd lB w w (hp w) [] :=
 ⟨rfl, rfl, rfl, ry.of (aR _), aR _, fun _ _ _ => rfl, fun _ _ h => h, fun _ _ h => (by cases h), by simp⟩
section
variable {F : Nat → Prop} {w W W' : World} {μ μ' : jN} {L L' : List (Nat × Obj)}
theorem ST.ex (h : ST dd lB w W μ L) : Ex dd w W := ⟨h.os, h.tape, h.output, h.drawn, h.size, fun b d => h.lF b d (fun x => x)⟩
theorem NR (W : World) (o : Obj) : (W.alloc o).heap[W.heap.size]? = some o := heap_alloc_new W o
theorem nq {W : World} {b : Nat} {o : Obj} (h : W.heap[b]? = some o) : b < W.heap.size := (dv.1 h).1
theorem ST.drew (h : ST dd F w W μ L) : ST dd F w W.drew μ L :=
 ⟨h.os, h.tape, h.output, ry.trans h.drawn (ry.of (ig _)), h.size, h.lF, h.mem, h.box, h.nd⟩
theorem ST.CQ (h : ST dd F w W μ L) {b : Nat} {o : Obj} (d : (b, o) ∈ L) : b < W.heap.size := nq (h.box b o d).1
theorem ST.alloc (h : ST dd F w W μ L) (o : Obj) : ST dd F w (W.alloc o) μ ((W.heap.size, o) :: L) := by
 refine ⟨h.os, h.tape, h.output, h.drawn, dy h.size (Ex.alloc (dd := true) W o).size, fun b d m => ?_, fun b i d => ?_, fun b i d => ?_, ?_⟩
 ·rw [(Ex.alloc (dd := true) W o).lF b (dT d h.size)]; exact h.lF b d m
 ·have := h.mem b i d
  rw [(Ex.alloc (dd := true) W o).lF b (nq this)]; exact this
 ·rcases aK.1 d with e | d
  ·cases e
   refine ⟨NR W o, ?_, .inl h.size⟩
   cases hm : μ W.heap.size with
   | none => rfl
   | some x => have := nq (h.mem _ _ hm); omega
  ·obtain ⟨h1, j, l⟩ := h.box b i d
   exact ⟨by rw [(Ex.alloc (dd := true) W o).lF b (nq h1)]; exact h1, j, l⟩
 ·simp only [bF, cY]
  refine ⟨fun hm => ?_, h.nd⟩
  obtain ⟨⟨b, i⟩, d, e⟩ := bH.1 hm
  have := h.CQ d
  simp at e
  omega
theorem ST.put {A B : List (Nat × Obj)} {b : Nat} {o q : Obj} (h : ST dd F w W μ (A ++ (b, o) :: B)) (v : W'.os = W.os ∧ W'.tape = W.tape ∧ W'.output = W.output ∧ W.drawn ≤ W'.drawn ∧ W'.heap.size = W.heap.size) (j : ∀ k, k ≠ b → W'.heap[k]? = W.heap[k]?) (y : W'.heap[b]? = some q) : ST dd F w W' μ (A ++ (b, q) :: B) := by
 obtain ⟨h1, r, s, t, u⟩ := v
 have i := h.box b o (by simp)
 have d := h.nd
 simp only [bY, bF] at d
 have l : ∀ x o, (x, o) ∈ A → x ≠ b := fun x o n e => by
  subst e
  have := (bQ.1 d).2.2 x (bH.2 ⟨_, n, rfl⟩) x (by simp)
  exact this rfl
 have m : ∀ x o, (x, o) ∈ B → x ≠ b := fun x o n e => by
  subst e
  have := (cY.1 (bQ.1 d).2.1).1
  exact this (bH.2 ⟨_, n, rfl⟩)
 refine ⟨h1.trans h.os, r.trans h.tape, s.trans h.output, ry.trans h.drawn (ry.of t), by rw [u]; exact h.size, fun k hk p => ?_, fun k x hk => ?_, fun k x hk => ?_, by simpa using d⟩
 ·rw [j k (fun e => by subst e; rcases i.2.2 with h | h; omega; exact p h)]
  exact h.lF k hk p
 ·rw [j k (fun e => by subst e; rw [i.2.1] at hk; cases hk)]
  exact h.mem k x hk
 ·rcases aN.1 hk with hk | hk
  ·rw [j k (l k x hk)]; exact h.box k x (by simp [hk])
  ·rcases aK.1 hk with e | hk
   ·cases e; exact ⟨y, i.2⟩
   ·rw [j k (m k x hk)]; exact h.box k x (by simp [hk])
def Lo (F : Nat → Prop) (w : World) (μ μ' : jN) : Prop := ∀ b, b < w.heap.size → ¬ F b → μ' b = μ b
theorem Lo.refl {F : Nat → Prop} {w : World} {μ : jN} : Lo F w μ μ := fun _ _ _ => rfl
theorem Lo.trans {F : Nat → Prop} {w : World} {a b c : jN} (h : Lo F w a b) (k : Lo F w b c) : Lo F w a c := fun x i d => (k x i d).trans (h x i d)
def grow (μ : jN) (W W' : World) : jN := fun b => if b < W.heap.size then μ b else W'.heap[b]?
theorem ST.BV (h : ST dd F w W μ L) {b : Nat} {o : Obj} (d : μ b = some o) : b < W.heap.size := nq (h.mem b o d)
theorem ST.call (h : ST dd F w W μ L) (i : Ex dd W W') : ST dd F w W' (grow μ W W') L := by
 refine ⟨i.os.trans h.os, i.tape.trans h.tape, i.output.trans h.output, ry.trans h.drawn i.drawn, dy h.size i.size, fun b d n => ?_, fun b o d => ?_, fun b o d => ?_, h.nd⟩
 ·rw [i.lF b (dT d h.size)]; exact h.lF b d n
 ·unfold grow at d
  split at d
  ·rename_i j; rw [i.lF b j]; exact h.mem b o d
  ·exact d
 ·obtain ⟨h1, l, m⟩ := h.box b o d
  exact ⟨by rw [i.lF b (nq h1)]; exact h1, by unfold grow; rw [aZ (nq h1)]; exact l, m⟩
theorem ST.MP (h : ST dd F w W μ L) (W' : World) : jT μ (grow μ W W') := fun b o d => by
 unfold grow; rw [aZ (h.BV d)]; exact d
theorem ST.lX (h : ST dd F w W μ' L) (i : jT μ μ') : ST dd F w W μ L :=
 ⟨h.os, h.tape, h.output, h.drawn, h.size, h.lF, fun b o d => h.mem b o (i b o d), fun b o d => by
  obtain ⟨h1, j, l⟩ := h.box b o d
  refine ⟨h1, ?_, l⟩
  cases hm : μ b with
  | none => rfl
  | some x => (have := i b x hm; rw [j] at this; cases this), h.nd⟩
theorem ST.Fg (h : ST dd F w W μ L) (b : Ex dd W W') : ST dd F w W' μ L := (h.call b).lX (h.MP W')
theorem ST.jx (h : ST dd F w W μ L) : jT μ (hp W) := h.mem
def JP (μ : jN) (b : Nat) (o : Obj) : jN := fun k => if k = b then some o else μ k
theorem ST.GF {A B : List (Nat × Obj)} {b : Nat} {o : Obj} (h : ST dd F w W μ (A ++ (b, o) :: B)) : ST dd F w W (JP μ b o) (A ++ B) := by
 have j := h.box b o (by simp)
 have d := h.nd
 simp only [bY, bF] at d
 have m : ∀ x y, (x, y) ∈ A ++ B → x ≠ b := fun x y i e => by
  subst e
  rcases aN.1 i with i | i
  ·exact (bQ.1 d).2.2 x (bH.2 ⟨_, i, rfl⟩) x (by simp) rfl
  ·exact (cY.1 (bQ.1 d).2.1).1 (bH.2 ⟨_, i, rfl⟩)
 refine ⟨h.os, h.tape, h.output, h.drawn, h.size, h.lF, fun k x hk => ?_, fun k x hk => ?_, ?_⟩
 ·unfold JP at hk
  split at hk
  ·rename_i e; cases hk; rw [e]; exact j.1
  ·exact h.mem k x hk
 ·have l : (k, x) ∈ A ++ (b, o) :: B := by
   rcases aN.1 hk with h | h <;> simp [h]
  obtain ⟨h1, n, p⟩ := h.box k x l
  exact ⟨h1, by unfold JP; rw [aY (m k x hk)]; exact n, p⟩
 ·have : (A ++ B).Sublist (A ++ (b, o) :: B) := List.Sublist.append (List.Sublist.refl A) (List.sublist_cons_self _ _)
  exact List.Nodup.sublist (this.map _) h.nd
theorem ST.Gj {A B : List (Nat × Obj)} {b : Nat} {o : Obj} (h : ST dd F w W μ (A ++ (b, o) :: B)) : jT μ (JP μ b o) := fun k x hk => by
 unfold JP
 split
 ·rename_i e; subst e; rw [(h.box k o (by simp)).2.1] at hk; cases hk
 ·exact hk
theorem ST.Mv {A B : List (Nat × Obj)} {b : Nat} {o : Obj} (h : ST dd F w W μ (A ++ (b, o) :: B)) : Lo F w μ (JP μ b o) := fun k hk i => by
 refine aY (fun e => ?_)
 subst e
 rcases (h.box k o (by simp)).2.2 with d | d
 ·omega
 ·exact i d
theorem ST.drop {A B : List (Nat × Obj)} {p : Nat × Obj} (h : ST dd F w W μ (A ++ p :: B)) : ST dd F w W μ (A ++ B) :=
 (h.GF (b := p.1) (o := p.2)).lX h.Gj
end
abbrev oP (α : Type) := jN → List Value → α → Prop
def Sl {α : Type} (R : oP α) (k : Nat) (μ : jN) (v : Value) (l : List α) : Prop :=
 ∃ A c, v = .slice A l.length c ∧ l.length ≤ c ∧ c ≤ maxLen ∧ (0 < l.length → ∃ b off cs T fr, A = some ⟨b, off, none⟩ ∧ μ b = some (.cells cs T fr) ∧
  ∀ i x, l[i]? = some x → ∃ ys, ys.length = k ∧ R μ ys x ∧ ∀ j y, ys[j]? = some y → cs[off + i * k + j]? = some y)
def At (μ : jN) (v : Value) (ys : List Value) : Prop :=
 ∃ b off cs T fr, v = .pointer (some ⟨b, off, none⟩) ∧ μ b = some (.cells cs T fr) ∧ ∀ j y, ys[j]? = some y → cs[off + j]? = some y
def Fr (B : Nat) (v : Value) : Prop := ∀ b, v.ownBlock = some b → B ≤ b
def Fb {α : Type} (R : oP α) : Prop := ∀ μ μ' ys x, jT μ μ' → R μ ys x → R μ' ys x
def Pl {α : Type} (enc : α → List Value) : oP α := fun _ ys x => ys = enc x
theorem Pl.mono {α : Type} (enc : α → List Value) : Fb (Pl enc) := fun _ _ _ _ _ h => h
theorem Sl.mono {α : Type} {R : oP α} (w : Fb R) {k : Nat} {μ μ' : jN} {v : Value} {l : List α} (h : Sl R k μ v l) (j : jT μ μ') : Sl R k μ' v l := by
 obtain ⟨A, c, h1, m, n, p⟩ := h
 refine ⟨A, c, h1, m, n, fun y => ?_⟩
 obtain ⟨b, off, cs, T, fr, q, r, s⟩ := p y
 exact ⟨b, off, cs, T, fr, q, j _ _ r, fun i x z => let ⟨ys, t, u, d⟩ := s i x z; ⟨ys, t, w _ _ _ _ j u, d⟩⟩
theorem At.mono {μ μ' : jN} {v : Value} {ys : List Value} (h : At μ v ys) (j : jT μ μ') : At μ' v ys := by
 obtain ⟨b, off, cs, T, fr, h1, d, i⟩ := h
 exact ⟨b, off, cs, T, fr, h1, j _ _ d, i⟩
theorem Sl.len {α : Type} {R : oP α} {k : Nat} {μ : jN} {v : Value} {l : List α} (h : Sl R k μ v l) : l.length ≤ 9223372036854775807 := by
 obtain ⟨A, c, h1, d, b, i⟩ := h
 unfold maxLen at b
 omega
theorem Sl.nil {α : Type} (R : oP α) (k : Nat) (μ : jN) : Sl R k μ (.slice none 0 0) [] := ⟨none, 0, rfl, aR _, by decide, fun h => absurd h (by simp)⟩
theorem Fr.mono {B B' : Nat} {v : Value} (h : Fr B v) (d : B' ≤ B) : Fr B' v := fun b i => dy d (h b i)
theorem Fr.nil (B : Nat) : Fr B (.slice none 0 0) := fun b d => by simp [Value.ownBlock] at d
end Go.Proofs.YtjjjihkifgdhgaaGreatDoor
namespace Go.Proofs.YtjjjihkifgdhgaaGreatDoor
open Go.RowKit
variable [M : Md]
variable {dd : Bool}
section
variable {P : Program} {n : Nat} {Q : pk} {E : Nat → Value} {W : World} {ops : Array Oper} {rest : List Oper}
 {d : Option Nat} {ty : TypeId} {pos : String} {af : Array Edge} {g : Option (Nat × Bool)}
 {F : Nat → Prop} {w : World} {μ : jN} {L : List (Nat × Obj)}
def lu (P : Program) (E : Nat → Value) (o : Oper) (W : World) (v : Value) (W' : World) : Prop := (execOp (jv E) o).run P W = .ok (.value v) W'
theorem Gz {o : Oper} {dd : Nat} {v : Value} (hw : rf n ops E o) (b : o.dst = some dd) (d : dd < n) (i : lu P E o W v W) (h : LW P n ops Q rest (nA E dd v) W) : LW P n ops Q (o :: rest) E W := Mc hw b d i h
theorem jB {x : Operand} {v : Value} (b : jv E x = v) : lu P E ⟨d, .move x, ty, pos, af, g⟩ W v W := by rw [← b]; rfl
theorem nt {x : Operand} {v : Value} (b : jv E x = v) : lu P E ⟨d, .assign x, ty, pos, af, g⟩ W v W := by rw [← b]; rfl
theorem km {c x y : Operand} {v : Value} (b : jv E c = .bool true) (h : jv E x = v) : lu P E ⟨d, .pick c x y, ty, pos, af, g⟩ W v W := by
 show (do pure (.value (if ← asBool (jv E c) then jv E x else jv E y)) : Sem Next).run P W = _
 rw [b, ← h]; simp [asBool]
theorem kq {c x y : Operand} {v : Value} (b : jv E c = .bool false) (h : jv E y = v) : lu P E ⟨d, .pick c x y, ty, pos, af, g⟩ W v W := by
 show (do pure (.value (if ← asBool (jv E c) then jv E x else jv E y)) : Sem Next).run P W = _
 rw [b, ← h]; simp [asBool]
theorem DB {x : Operand} {i : Nat} {vs : Array Value} {v : Value} (h : jv E x = .tuple vs) (b : vs[i]? = some v) : lu P E ⟨d, .extract x i, ty, pos, af, g⟩ W v W := by
 show (do pure (.value (← Instr.extract (jv E x) i)) : Sem Next).run P W = _
 rw [h]; simp [Instr.extract, b]
theorem pA {u : TypeId} {x : Operand} {b : Bool} (h : jv E x = .bool b) : lu P E ⟨d, .unOp .not u x, ty, pos, af, g⟩ W (.bool !b) W := by
 show (do pure (.value (← Op.unary .not (jv E x))) : Sem Next).run P W = _
 rw [h]; simp [Op.unary]
theorem Kv {fn : Fn} {first b : Array Operand} {v : Value} (h : .func fn (first.map (jv E)) (b.map (jv E)) = v) : lu P E ⟨d, .makeFunc fn first b, ty, pos, af, g⟩ W v W := by
 show (do pure (.value (← Instr.makeFunc fn (first.map (jv E)) (b.map (jv E)))) : Sem Next).run P W = _
 rw [← h]; simp [Instr.makeFunc]
def Hx (k : IntKind) (op : BinOp) (a b : Int) : Option Value :=
 match op with
 | .eql => some (.bool (a == b))
 | .neq => some (.bool (a != b))
 | .lss => some (.bool (decide (a < b)))
 | .leq => some (.bool (decide (a ≤ b)))
 | .gtr => some (.bool (decide (a > b)))
 | .geq => some (.bool (decide (a ≥ b)))
 | .add => some (.int k (k.wrap (a + b)))
 | .sub => some (.int k (k.wrap (a - b)))
 | .mul => some (.int k (k.wrap (a * b)))
 | _ => none
theorem kC {op : BinOp} {tx tv : TypeId} {x y : Operand} {k : IntKind} {a b : Int} {v : Value} (i : jv E x = .int k a) (j : jv E y = .int k b) (h : Hx k op a b = some v) :
  lu P E ⟨d, .binOp op tx x y tv, ty, pos, af, g⟩ W v W := by
 show (do let r ← (do eqGuard op tx x y (jv E x) (jv E y); binOp op tx (jv E x) (jv E y)); pure (.value r) : Sem Next).run P W = _
 rw [i, j]
 cases op <;> simp [Hx] at h <;> subst h <;> simp [eqGuard, binOp, Op.intCmp, Op.intArith]
def Oh (op : BinOp) (a b : ByteArray) : Option Value :=
 match op with
 | .eql => some (.bool (a.toList == b.toList))
 | .neq => some (.bool !(a.toList == b.toList))
 | .lss => some (.bool (Op.bytesLess a.toList b.toList))
 | .leq => some (.bool (Op.bytesLess a.toList b.toList || a.toList == b.toList))
 | .gtr => some (.bool !(Op.bytesLess a.toList b.toList || a.toList == b.toList))
 | .geq => some (.bool !(Op.bytesLess a.toList b.toList))
 | _ => none
def pj (a b : ByteArray) : Option ByteArray := if ((a.size + b.size : Nat) : Int) > IntKind.i64.max then none else some (a ++ b)
theorem Oc {op : BinOp} {tx tv : TypeId} {x y : Operand} {a b : ByteArray} {v : Value} (i : jv E x = .string a) (j : jv E y = .string b) (h : Oh op a b = some v) :
  lu P E ⟨d, .binOp op tx x y tv, ty, pos, af, g⟩ W v W := by
 show (do let r ← (do eqGuard op tx x y (jv E x) (jv E y); binOp op tx (jv E x) (jv E y)); pure (.value r) : Sem Next).run P W = _
 rw [i, j]
 cases op <;> simp [Oh] at h <;> subst h <;> simp [eqGuard, binOp, Op.stringOp]
theorem EY {tx tv : TypeId} {x y : Operand} {a b r : ByteArray} (i : jv E x = .string a) (j : jv E y = .string b) (h : pj a b = some r) :
  lu P E ⟨d, .binOp .add tx x y tv, ty, pos, af, g⟩ W (.string r) W := by
 show (do let r ← (do eqGuard .add tx x y (jv E x) (jv E y); binOp .add tx (jv E x) (jv E y)); pure (.value r) : Sem Next).run P W = _
 rw [i, j]
 simp only [pj] at h
 split at h
 ·cases h
 ·rename_i hle; cases h; simp [eqGuard, binOp, Op.stringOp]; simpa using hle
theorem Az {tx tv : TypeId} {x y : Operand} {a b : Array Value} {r : Bool} (j : jv E x = .agg a) (l : jv E y = .agg b) (h : ∀ W, (eqGuard .eql tx x y (.agg a) (.agg b)).run P W = .ok () W) (i : ∀ W, (binOp .eql tx (.agg a) (.agg b)).run P W = .ok (.bool r) W) : lu P E ⟨d, .binOp .eql tx x y tv, ty, pos, af, g⟩ W (.bool r) W := by
 show (do let r ← (do eqGuard .eql tx x y (jv E x) (jv E y); binOp .eql tx (jv E x) (jv E y)); pure (.value r) : Sem Next).run P W = _
 rw [j, l]; simp [h W, i W]
theorem Ru {tx tv : TypeId} {x y : Operand} {a b : Array Value} {r : Bool} (j : jv E x = .agg a) (l : jv E y = .agg b) (h : ∀ W, (eqGuard .neq tx x y (.agg a) (.agg b)).run P W = .ok () W) (i : ∀ W, (binOp .neq tx (.agg a) (.agg b)).run P W = .ok (.bool r) W) : lu P E ⟨d, .binOp .neq tx x y tv, ty, pos, af, g⟩ W (.bool r) W := by
 show (do let r ← (do eqGuard .neq tx x y (jv E x) (jv E y); binOp .neq tx (jv E x) (jv E y)); pure (.value r) : Sem Next).run P W = _
 rw [j, l]; simp [h W, i W]
theorem Au {t e : TypeId} (dd : Nat) (b : P.underlying t = some (.pointer e)) (a : Option Addr) (W : World) : (Op.equalIn (dd + 1) t (.pointer a) (.pointer none)).run P W = .ok a.isNone W := by
 cases a <;> simp [Op.equalIn, aS b]
theorem sO {tx tv e : TypeId} {x y : Operand} {a : Option Addr} (h : P.underlying tx = some (.pointer e)) (i : jv E x = .pointer a) (j : jv E y = .pointer none) :
  lu P E ⟨d, .binOp .eql tx x y tv, ty, pos, af, g⟩ W (.bool a.isNone) W := by
 show (do let r ← (do eqGuard .eql tx x y (jv E x) (jv E y); binOp .eql tx (jv E x) (jv E y)); pure (.value r) : Sem Next).run P W = _
 rw [i, j]
 have b := Au 9999 h a W
 simp [eqGuard, binOp, Op.equal, show Op.maxDepth = 9999 + 1 from rfl, b]
theorem Cl {tx tv e : TypeId} {x y : Operand} {a : Option Addr} (h : P.underlying tx = some (.pointer e)) (i : jv E x = .pointer a) (j : jv E y = .pointer none) :
  lu P E ⟨d, .binOp .neq tx x y tv, ty, pos, af, g⟩ W (.bool !a.isNone) W := by
 show (do let r ← (do eqGuard .neq tx x y (jv E x) (jv E y); binOp .neq tx (jv E x) (jv E y)); pure (.value r) : Sem Next).run P W = _
 rw [i, j]
 have b := Au 9999 h a W
 simp [eqGuard, binOp, Op.equal, show Op.maxDepth = 9999 + 1 from rfl, b]
theorem ol {x : Operand} {t : TypeId} {s : ByteArray} (b : P.underlying t = some .string) (h : jv E x = .string s) : lu P E ⟨d, .call ⟨.builtin .len, #[x], #[t]⟩, ty, pos, af, g⟩ W (.int .i64 s.size) W := by
 show (do let d ← resolve (jv E) ⟨.builtin .len, #[x], #[t]⟩ ty; invoke d.target d.args : Sem Next).run P W = _
 simp [resolve, invoke, builtin, Builtin.len_, aS b, h, goInt]
theorem yf {x : Operand} {t e : TypeId} {A : Option Addr} {l c : Nat} (b : P.underlying t = some (.slice e)) (h : jv E x = .slice A l c) : lu P E ⟨d, .call ⟨.builtin .len, #[x], #[t]⟩, ty, pos, af, g⟩ W (.int .i64 l) W := by
 show (do let d ← resolve (jv E) ⟨.builtin .len, #[x], #[t]⟩ ty; invoke d.target d.args : Sem Next).run P W = _
 simp [resolve, invoke, builtin, Builtin.len_, aS b, h, goInt]
theorem lR {α : Type} {R : oP α} {k : Nat} {m : jN} {x : Operand} {t e : TypeId} {v : Value} {l : List α} (h : P.underlying t = some (.slice e)) (i : jv E x = v) (b : Sl R k m v l) : lu P E ⟨d, .call ⟨.builtin .len, #[x], #[t]⟩, ty, pos, af, g⟩ W (.int .i64 l.length) W := by
 obtain ⟨A, c, rfl, _⟩ := b
 exact yf h i
theorem Li {t : TypeId} {x b : Operand} {p : IntKind} {s : ByteArray} {i : Int} {c : UInt8} (m : P.underlying t = some .string) (n : jv E x = .string s) (j : jv E b = .int p i) (h : 0 ≤ i) (l : s[i.toNat]? = some c) :
  lu P E ⟨d, .index t x b, ty, pos, af, g⟩ W (.int .u8 c.toNat) W := by
 show (do pure (.value (← Instr.index t (jv E x) (jv E b))) : Sem Next).run P W = _
 rw [n, j]
 simp [Instr.index, asIntOf, aS m, h, l]
def kQ (P : Program) (t : TypeId) (f off : Nat) : Prop := ∀ b o w, (Instr.fieldAt t (.pointer (some ⟨b, o, none⟩)) f).run P w = .ok (.pointer (some ⟨b, o + off, none⟩)) w
theorem jy {t : TypeId} {x : Operand} {f off b o : Nat} (h : kQ P t f off) (i : jv E x = .pointer (some ⟨b, o, none⟩)) : lu P E ⟨d, .fieldAddr t x f, ty, pos, af, g⟩ W (.pointer (some ⟨b, o + off, none⟩)) W := by
 show (do pure (.value (← Instr.fieldAt t (jv E x) f)) : Sem Next).run P W = _
 rw [i]; simp [h b o W]
theorem rC {t : TypeId} {x : Operand} {f off : Nat} {v : Value} {ys : List Value} (zs : List Value) (m : kQ P t f off) (q : jv E x = v) (p : At μ v ys) (r : (ys.drop off).take zs.length = zs) :
  ∃ i, At μ i zs ∧ ∀ W, lu P E ⟨d, .fieldAddr t x f, ty, pos, af, g⟩ W i W := by
 obtain ⟨b, o, cs, T, fr, rfl, h1, l⟩ := p
 refine ⟨_, ⟨b, o + off, cs, T, fr, rfl, h1, fun j y h => ?_⟩, fun W => jy m q⟩
 have n : j < zs.length := (aW.1 h).1
 have := l (off + j) y (by
  rw [← r, dq n, dM] at h
  exact h)
 rw [dW]
 exact this
theorem mw {x : Operand} {a : Addr} (b : jv E x = .pointer (some a)) : lu P E ⟨d, .nilCheck x, ty, pos, af, g⟩ W (.pointer (some a)) W := by
 unfold lu execOp
 simp [b]
theorem GG {α : Type} {R : oP α} {k : Nat} {t e : TypeId} {x m : Operand} {Y : IntKind} {v : Value} {i : Int} {l : List α} {x0 : α} (O : P.underlying t = some (.slice e)) (he : ∀ w, (sizeOf e).run P w = .ok k w) (Q : jv E x = v) (J : jv E m = .int Y i) (M : Sl R k μ v l) (q : 0 ≤ i) (n : l[i.toNat]? = some x0) :
  ∃ p ys, ys.length = k ∧ R μ ys x0 ∧ At μ p ys ∧ ∀ W, lu P E ⟨d, .indexAddr t x m, ty, pos, af, g⟩ W p W := by
 obtain ⟨A, c, rfl, Z, h3, r⟩ := M
 have L : i.toNat < l.length := (aW.1 n).1
 obtain ⟨b, off, cs, T, fr, rfl, s, u⟩ := r (by omega)
 obtain ⟨ys, z, G, h⟩ := u i.toNat x0 n
 refine ⟨.pointer (some ⟨b, off + i.toNat * k, none⟩), ys, z, G, ⟨b, off + i.toNat * k, cs, T, fr, rfl, s, fun j y U => h j y U⟩, fun W => ?_⟩
 show (do pure (.value (← Instr.indexAt t (jv E x) (jv E m))) : Sem Next).run P W = _
 rw [Q, J]
 have I : 0 ≤ i ∧ i < (l.length : Int) := ⟨q, by omega⟩
 simp [Instr.indexAt, asIntOf, aS O, he W, I, dz]
theorem ql {α : Type} {enc : α → List Value} {k : Nat} {t e : TypeId} {x b : Operand} {z : IntKind} {v : Value} {i : Int} {l : List α} {x0 : α} (u : P.underlying t = some (.slice e)) (he : ∀ w, (sizeOf e).run P w = .ok k w) (y : jv E x = v) (q : jv E b = .int z i) (s : Sl (Pl enc) k μ v l) (h : 0 ≤ i) (r : l[i.toNat]? = some x0) :
  ∃ p, At μ p (enc x0) ∧ ∀ W, lu P E ⟨d, .indexAddr t x b, ty, pos, af, g⟩ W p W := by
 obtain ⟨p, ys, h1, j, m, n⟩ := GG (d := d) (ty := ty) (pos := pos) (af := af) (g := g) u he y q s h r
 cases j
 exact ⟨p, m, n⟩
theorem Hl (P : Program) {W : World} {b off : Nat} {cs : Array Value} {T : TypeId} {fr : Nat × Nat} (d : W.heap[b]? = some (.cells cs T fr)) (ys : List Value) (i : ∀ j y, ys[j]? = some y → cs[off + j]? = some y) :
  (loadCells ⟨b, off, none⟩ ys.length).run P W = .ok ys.toArray W :=
 run_loadCells_list W ⟨b, off, none⟩ ys (fun j v h => by rw [dz, ft W b (off + j) cs T fr d]; exact i j v h)
theorem Bj {W : World} {t : TypeId} {b off : Nat} {cs : Array Value} {T : TypeId} {fr : Nat × Nat} (d : ∀ w, (isAgg t).run P w = .ok true w) (ys : List Value) (h : ∀ w, (sizeOf t).run P w = .ok ys.length w) (i : W.heap[b]? = some (.cells cs T fr)) (l : ∀ j y, ys[j]? = some y → cs[off + j]? = some y) : (Instr.loadAt t (.pointer (some ⟨b, off, none⟩))).run P W = .ok (.agg ys.toArray) W := by
 simp [Instr.loadAt, Instr.sureAddr, loadVar, d W, h W, Hl P i ys l]
theorem Bb {W : World} {t : TypeId} {b off : Nat} {cs : Array Value} {T : TypeId} {fr : Nat × Nat} (d : ∀ w, (isAgg t).run P w = .ok false w) {y : Value} (h : W.heap[b]? = some (.cells cs T fr)) (j : cs[off]? = some y) : (Instr.loadAt t (.pointer (some ⟨b, off, none⟩))).run P W = .ok y W := by
 have i : W.cell? ⟨b, off, none⟩ = some y := by rw [ft W b off cs T fr h]; exact j
 simp [Instr.loadAt, Instr.sureAddr, loadVar, d W, load, Sem.run, i]
theorem jt {t : TypeId} {x : Operand} {a v : Value} (h : jv E x = a) (b : (Instr.loadAt t a).run P W = .ok v W) : lu P E ⟨d, .load t x, ty, pos, af, g⟩ W v W := by
 show (do pure (.value (← Instr.loadAt t (jv E x))) : Sem Next).run P W = _
 rw [h]; simp [b]
def nc (μ : jN) (A : List (Nat × Obj)) (W : World) : Prop := (∀ b o, μ b = some o → W.heap[b]? = some o) ∧ ∀ b o, (b, o) ∈ A → W.heap[b]? = some o
theorem ST.has (h : ST dd F w W μ L) : nc μ L W := ⟨h.mem, fun b o d => (h.box b o d).1⟩
theorem nc.sub {μ' : jN} {A A' : List (Nat × Obj)} (h : nc μ A W) (j : jT μ' μ) (i : ∀ p, p ∈ A' → p ∈ A) : nc μ' A' W := ⟨fun b o d => h.1 b o (j b o d), fun b o d => h.2 b o (i _ d)⟩
theorem jW {A : List (Nat × Obj)} (hH : nc μ A W) {t : TypeId} {p : Value} {ys : List Value} (hp : At μ p ys) (h : ∀ w, (isAgg t).run P w = .ok true w) (i : ∀ w, (sizeOf t).run P w = .ok ys.length w) :
  (Instr.loadAt t p).run P W = .ok (.agg ys.toArray) W := by
 obtain ⟨b, off, cs, T, fr, rfl, h1, d⟩ := hp
 exact Bj h ys i (hH.1 _ _ h1) d
theorem nV {A : List (Nat × Obj)} (hH : nc μ A W) {t : TypeId} {p y : Value} (hp : At μ p [y]) (h : ∀ w, (isAgg t).run P w = .ok false w) :
  (Instr.loadAt t p).run P W = .ok y W := by
 obtain ⟨b, off, cs, T, fr, rfl, h1, d⟩ := hp
 exact Bb h (hH.1 _ _ h1) (d 0 y rfl)
theorem jD {A : List (Nat × Obj)} (hH : nc μ A W) {t : TypeId} {b off : Nat} {cs : Array Value} {T : TypeId} {fr : Nat × Nat} (l : (b, Obj.cells cs T fr) ∈ A) (ys : List Value) (n : (cs.toList.drop off).take ys.length = ys) (i : ∀ w, (isAgg t).run P w = .ok true w) (m : ∀ w, (sizeOf t).run P w = .ok ys.length w) : (Instr.loadAt t (.pointer (some ⟨b, off, none⟩))).run P W = .ok (.agg ys.toArray) W :=
 Bj i ys m (hH.2 _ _ l) (fun j y d => by
  have h : j < ys.length := (aW.1 d).1
  rw [← n, dq h, dM] at d
  simpa using d)
theorem jJ {A : List (Nat × Obj)} (hH : nc μ A W) {t : TypeId} {b off : Nat} {cs : Array Value} {T : TypeId} {fr : Nat × Nat} (h : (b, Obj.cells cs T fr) ∈ A) {y : Value} (i : cs[off]? = some y) (d : ∀ w, (isAgg t).run P w = .ok false w) : (Instr.loadAt t (.pointer (some ⟨b, off, none⟩))).run P W = .ok y W :=
 Bb d (hH.2 _ _ h) i
theorem mE {t : TypeId} {b : Array (Nat × Operand)} {h : Array (Nat × Value)} {v : Value} (j : b.map (fun (i, x) => (i, jv E x)) = h) (l : ∀ W, (Instr.build t h).run P W = .ok v W) : lu P E ⟨d, .build t b, ty, pos, af, g⟩ W v W := by
 show (do pure (.value (← Instr.build t (b.map fun (i, x) => (i, jv E x)))) : Sem Next).run P W = _
 rw [j]; simp [l W]
theorem lO {t : TypeId} {z cs : Array Value} {fs : Array Field} {b : Array (Nat × Value)} {pl : Array (Nat × Nat)} (i : ∀ w, (zeroValue t).run P w = .ok (.agg z) w) (h : P.underlying t = some (.struct fs)) (hp : ∀ w, (fs.mapM fun f => do pure (f.offset, ← sizeOf f.type) : Sem (Array (Nat × Nat))).run P w = .ok pl w) (d : Instr.fill (pl[·]?) z b.toList = some cs) (W : World) : (Instr.build t b).run P W = .ok (.agg cs) W := by
 simp only [Instr.build, bZ, i W, bM, aS h, Value.cells]
 rw [hp W]
 simp only [bM, d, dm]
end
theorem DD {α : Type} : ∀ (a : Ask α) (w : World), w.drawn ≤ (w.ask a).2.drawn
 | .done a, w => by simp [World.ask]
 | .ask b range k, w => by
  unfold World.ask
  dsimp only
  split
  ·exact DD (k 0) w
  ·refine dy (ig w.drawn) ?_
   exact DD _ { w with drawn := w.drawn + 1 }
theorem L3 (w : World) (c : Sys) : w.drawn ≤ (w.sys c).2.drawn := by
 have h := DD (Kernel.perform c w.os) w
 unfold World.sys
 generalize w.ask (Kernel.perform c w.os) = r at *
 obtain ⟨⟨b, d⟩, i⟩ := r
 cases b <;> simp at h ⊢ <;> exact h
theorem Fl {p : Program} {w d : World} {a : Addr} {u : TypeId} {k : Addr} {v : Value} {b : Bool} {l : List Addr} (h : w.viewStore p a u k v b = .ok (d, l)) : d.drawn = w.drawn := by
 unfold World.viewStore at h
 simp only [bind, Except.bind, pure, Except.pure] at h
 split at h
 ·cases h
 ·split at h
  ·cases h
  ·split at h
   ·split at h
    ·cases h
    ·split at h
     ·cases h
     ·cases h; rfl
   ·cases h
theorem GL {p : Program} {w d : World} {a : Addr} {v : Value} {b : Bool} {l : List Addr} (h : w.farStore p a v b = .ok (d, l)) : d.drawn = w.drawn := by
 unfold World.farStore at h
 split at h
 ·split at h
  ·rename_i h1; cases h; exact Fl h1
  ·cases h
 ·cases h
theorem nC {α : Type} {p : Program} : ∀ (s : Sem α) (w d : World) (a : α), s.run p w = .ok a d → w.drawn ≤ d.drawn
 | .pure a, w, d, b, h => by simp only [Sem.run] at h; cases h; exact aR _
 | .load m a k, w, d, b, h => by
  simp only [Sem.run] at h
  split at h
  ·exact nC _ _ _ _ h
  ·split at h
   ·exact nC _ _ _ _ h
   ·cases h
 | .store m a v k, w, d, b, h => by
  have key : ∀ (r : Result α) j, r = .ok b d → (r = (match w.cell? a with
    | some _ => if w.frozen? a then .halt j w else k.run p (w.setCell a v)
    | none => match w.farStore p a v (m == .atomic) with
     | .ok (w, _) => k.run p w
     | .error h => .halt h w)) → w.drawn ≤ d.drawn := by
   intro r j l h
   rw [l] at h
   split at h
   ·split at h
    ·cases h
    ·have := nC k _ _ _ h.symm
     simpa [World.setCell] using this
   ·split at h
    ·rename_i h1
     have i := nC k _ _ _ h.symm
     rw [GL h1] at i
     exact i
    ·cases h
  cases v with
  | agg cs => simp only [Sem.run] at h; cases h
  | tuple cs => simp only [Sem.run] at h; cases h
  | _ => exact key _ _ h (by simp only [Sem.run]; rfl)
 | .new o k, w, d, b, h => by simp only [Sem.run] at h; have := nC (k _) _ _ _ h; exact this
 | .shape r k, w, d, b, h => by simp only [Sem.run] at h; exact nC _ _ _ _ h
 | .freeze a n k, w, d, b, h => by
  simp only [Sem.run] at h
  have := nC k _ _ _ h
  unfold World.freeze at this
  split at this <;> exact this
 | .frozen a k, w, d, b, h => by simp only [Sem.run] at h; exact nC _ _ _ _ h
 | .getObj r k, w, d, b, h => by
  simp only [Sem.run] at h
  split at h <;> try (cases h; done)
  exact nC _ _ _ _ h
 | .setObj r o k, w, d, b, h => by
  simp only [Sem.run] at h
  split at h <;> try (cases h; done)
  have := nC k _ _ _ h
  exact this
 | .choose q k, w, d, b, h => by
  simp only [Sem.run] at h
  split at h
  ·exact nC _ _ _ _ h
  ·exact dy (ig _) (nC _ _ _ _ h)
 | .sys c k, w, d, b, h => by
  simp only [Sem.run] at h
  exact dy (L3 w c) (nC _ _ _ _ h)
 | .program k, w, d, b, h => by simp only [Sem.run] at h; exact nC _ _ _ _ h
 | .mark m k, w, d, b, h => by simp only [Sem.run] at h; exact nC k _ _ _ h
 | .halt x, w, d, b, h => by simp only [Sem.run] at h; cases h
end Go.Proofs.YtjjjihkifgdhgaaGreatDoor
namespace Go.Proofs.YtjjjihkifgdhgaaGreatDoor
open Go.RowKit
variable [M : Md]
variable {dd : Bool}
section
variable {P : Program} {n : Nat} {Q : pk} {E : Nat → Value} {W : World} {ops : Array Oper} {rest : List Oper}
 {d : Option Nat} {ty : TypeId} {pos : String} {af : Array Edge} {g : Option (Nat × Bool)}
 {F : Nat → Prop} {w : World} {μ : jN} {L : List (Nat × Obj)}
def mD (P : Program) (E : Nat → Value) (o : Oper) (W : World) (K : Value → World → Prop) : Prop :=
 (∃ v W', (execOp (jv E) o).run P W = .ok (.value v) W' ∧ K v W') ∨ (∃ W', (execOp (jv E) o).run P W = .ok .skip W' ∧ K undef W') ∨
 (∃ f args, (execOp (jv E) o).run P W = .ok (.enter f args) W ∧ Calls P f args W fun e b => ∃ v, e = .returned v ∧ K v b)
theorem mD.mono {o : Oper} {K K' : Value → World → Prop} (h : mD P E o W K) (hk : ∀ v W', K v W' → K' v W') : mD P E o W K' := by
 rcases h with ⟨v, W', h1, b⟩ | ⟨W', h1, b⟩ | ⟨f, args, h1, b⟩
 ·exact .inl ⟨v, W', h1, hk _ _ b⟩
 ·exact .inr (.inl ⟨W', h1, hk _ _ b⟩)
 ·exact .inr (.inr ⟨f, args, h1, cW b (fun _ _ ⟨v, d, i⟩ => ⟨v, d, hk _ _ i⟩)⟩)
theorem PE {o : Oper} {dd : Nat} (hw : rf n ops E o) (d : o.dst = some dd) (i : dd < n) (h : mD P E o W fun v W' => LW P n ops Q rest (nA E dd v) W') : LW P n ops Q (o :: rest) E W := by
 rcases h with ⟨v, W', h1, b⟩ | ⟨W', h1, b⟩ | ⟨f, args, h1, b⟩
 ·exact Mc hw d i h1 b
 ·intro a ha
  unfold wpListIn
  rw [aZ (hw.of ha)]
  unfold Oper.wpIn
  refine ⟨fun _ _ => trivial, ?_⟩
  rw [ha.eval, xQ h1 (by simp), Oper.uponIn_skip, d]
  exact b _ (ha.put i _)
 ·exact NA hw d i h1 b
theorem Q7 {o : Oper} (hw : rf n ops E o) (d : o.dst = none) (h : mD P E o W fun _ W' => LW P n ops Q rest E W') : LW P n ops Q (o :: rest) E W := by
 rcases h with ⟨v, W', h1, b⟩ | ⟨W', h1, b⟩ | ⟨f, args, h1, b⟩
 ·intro a ha
  unfold wpListIn
  rw [aZ (hw.of ha)]
  unfold Oper.wpIn
  refine ⟨fun _ _ => trivial, ?_⟩
  rw [ha.eval, xQ h1 (by simp), Oper.uponIn_value, d]
  exact b _ (ha.xZ _)
 ·exact M5 hw d h1 b
 ·intro a ha
  unfold wpListIn
  rw [aZ (hw.of ha)]
  unfold Oper.wpIn
  refine ⟨fun _ _ => trivial, ?_⟩
  rw [ha.eval, xQ h1 (by simp), Oper.uponIn_enter]
  refine GD (cW b ?_)
  rintro e j ⟨v, rfl, i⟩
  simp only [d]
  exact i _ (ha.xZ _)
theorem kx {K : Value → World → Prop} {t : TypeId} {x : Operand} {v : Value} (i : ST dd F w W μ L) (j : jv E x = v) (h : ∀ W' b, ST dd F w W' μ ((b, .cells v.cells t (0, 0)) :: L) → K (.pointer (some ⟨b, 0, none⟩)) W') : mD P E ⟨d, .box t x, ty, pos, af, g⟩ W K :=
 .inl ⟨.pointer (some ⟨W.heap.size, 0, none⟩), W.alloc (.cells v.cells t (0, 0)), by
   show (do pure (.value (← Instr.box t (jv E x))) : Sem Next).run P W = _
   rw [j]
   simp [Instr.box, newVar, newRow, newObj, Sem.run], h _ _ (i.alloc _)⟩
theorem kB {K : Value → World → Prop} {t : TypeId} {z : Value} (i : ST dd F w W μ L) (j : ∀ w, (zeroValue t).run P w = .ok z w) (h : ∀ W' b, ST dd F w W' μ ((b, .cells z.cells t (0, 0)) :: L) → K (.pointer (some ⟨b, 0, none⟩)) W') : mD P E ⟨d, .alloc t, ty, pos, af, g⟩ W K :=
 .inl ⟨.pointer (some ⟨W.heap.size, 0, none⟩), W.alloc (.cells z.cells t (0, 0)), by
   show (do pure (.value (← Instr.alloc t true (.tuple #[]))) : Sem Next).run P W = _
   simp [Instr.alloc, j W, newVar, newRow, newObj, Sem.run], h _ _ (i.alloc _)⟩
theorem Ge {t e : TypeId} {m k : Nat} {z : Value} {h : Array (Nat × Value)} {cs : Array Value} (l : P.underlying t = some (.slice e)) (j : ∀ w, (sizeOf e).run P w = .ok k w) (n : ∀ w, (zeroValue e).run P w = .ok z w) (hm : m * k ≤ 16777216) (b : Instr.fill (fun i => some (i * k, k)) ((Array.range (m * k)).map (fun i => (if m * k = 0 then (#[] : Array Value) else z.cells)[i % (if m * k = 0 then (#[] : Array Value) else z.cells).size]!)) h.toList = some cs) (W : World) :
  (Instr.buildSlice t m h).run P W = .ok (.slice (some ⟨W.heap.size, 0, none⟩) m m) (W.alloc (.cells cs e (0, 0))) := by
 simp only [Instr.buildSlice, bZ, aS l, bM, j W]
 rw [aY (by omega)]
 by_cases d : m * k = 0
 ·simp only [d, aJ] at b ⊢
  simp only [bZ, dm, bM, b]
  simp [newRow, newObj, Sem.run]
 ·simp only [d, aG] at b ⊢
  simp only [bZ, n W, dm, bM, b]
  simp [newRow, newObj, Sem.run]
theorem jX {K : Value → World → Prop} {t e : TypeId} {m : Nat} {l : Array (Nat × Operand)} {n : Array (Nat × Value)} {cs : Array Value} (j : ST dd F w W μ L) (p : l.map (fun (i, x) => (i, jv E x)) = n) (q : ∀ W, (Instr.buildSlice t m n).run P W = .ok (.slice (some ⟨W.heap.size, 0, none⟩) m m) (W.alloc (.cells cs e (0, 0)))) (h : ∀ W' b, ST dd F w W' μ ((b, .cells cs e (0, 0)) :: L) → K (.slice (some ⟨b, 0, none⟩) m m) W') : mD P E ⟨d, .buildSlice t m l, ty, pos, af, g⟩ W K :=
 .inl ⟨.slice (some ⟨W.heap.size, 0, none⟩) m m, W.alloc (.cells cs e (0, 0)), by
   show (do pure (.value (← Instr.buildSlice t m (l.map fun (i, x) => (i, jv E x)))) : Sem Next).run P W = _
   rw [p]
   simp [q W], h _ _ (j.alloc _)⟩
theorem ST.store {A B : List (Nat × Obj)} {b : Nat} {cs : Array Value} {t : TypeId} (h : ST dd F w W μ (A ++ (b, .cells cs t (0, 0)) :: B)) (d : Array Value) :
  ST dd F w (W.setRow b d) μ (A ++ (b, .cells d t (0, 0)) :: B) := by
 have i := (h.box b _ (by simp : (b, Obj.cells cs t (0, 0)) ∈ A ++ (b, .cells cs t (0, 0)) :: B)).1
 refine h.put ⟨rfl, rfl, rfl, aR _, by simp [World.setRow]⟩ (fun k hk => ?_) (setRow_heap W b cs d t (0, 0) i)
 simp only [World.setRow, dF]
 rw [aY (fun e => hk e.symm)]
theorem Bm (P : Program) {W : World} {t : TypeId} {b off : Nat} {cs : Array Value} {T : TypeId} (v : Value) (d : ∀ w, (sizeOf t).run P w = .ok v.cells.size w) (h1 : ∀ u ∈ v.cells.toList, u.oneCell' = true) (h : W.heap[b]? = some (.cells cs T (0, 0))) (i : off + v.cells.size ≤ cs.size) : (Instr.storeAt t (.pointer (some ⟨b, off, none⟩)) v).run P W = .ok () (W.setRow b (cs.toList.take off ++ v.cells.toList ++ cs.toList.drop (off + v.cells.size)).toArray) := by
 have := ij (P := P) b off T v.cells.toList 0 cs W h (by simpa using i) h1
 simp [Instr.storeAt, Instr.sureAddr, storeVar, d W]
 simpa using this
theorem ON {K : Value → World → Prop} (A : List (Nat × Obj)) {B : List (Nat × Obj)} {t : TypeId} {x y : Operand} (v : Value) {b off : Nat} {cs : Array Value} {T : TypeId} (i : Array Value) (j : ST dd F w W μ (A ++ (b, .cells cs T (0, 0)) :: B)) (q : jv E x = .pointer (some ⟨b, off, none⟩)) (r : jv E y = v) (l : ∀ w, (sizeOf t).run P w = .ok v.cells.size w) (h1 : ∀ u ∈ v.cells.toList, u.oneCell' = true) (p : off + v.cells.size ≤ cs.size) (n : (cs.toList.take off ++ v.cells.toList ++ cs.toList.drop (off + v.cells.size)).toArray = i) (h : ∀ W', ST dd F w W' μ (A ++ (b, .cells i T (0, 0)) :: B) → K undef W') : mD P E ⟨d, .store t x y, ty, pos, af, g⟩ W K :=
 .inr (.inl ⟨W.setRow b i, by
   show (do Instr.storeAt t (jv E x) (jv E y); pure .skip : Sem Next).run P W = _
   have m := (j.box b _ (by simp : (b, Obj.cells cs T (0, 0)) ∈ A ++ (b, .cells cs T (0, 0)) :: B)).1
   rw [q, r]
   simp only [bZ, Bm P v l h1 m p, n, bM, dm], h _ (j.store i)⟩)
def kf (dd : Bool) (P : Program) (f : FuncId) (args : List Value) (w : World) (v : Value) : Prop := Calls P f args.toArray w fun e b => e = .returned v ∧ Ex dd w b
theorem L6 {f : FuncId} {fv : Operand} {ax : Array Operand} {ats : Array TypeId} {b args : Array Value} (h : jv E fv = .func (.func f) #[] b) (he : ∀ args w, (callFunc f args).run P w = .ok (.enter f args) w) (ha : ax.map (jv E) ++ b = args) :
  (execOp (jv E) ⟨d, .call ⟨.value fv, ax, ats⟩, ty, pos, af, g⟩).run P W = .ok (.enter f args) W := by
 show (do let d ← resolve (jv E) ⟨.value fv, ax, ats⟩ ty; invoke d.target d.args : Sem Next).run P W = _
 rw [← ha]
 simp only [resolve, h, Deferred.ofValue, bZ, dm, bM, invoke]
 simp [he]
theorem DS {K : Value → World → Prop} {f : FuncId} {fv : Operand} {ax : Array Operand} {ats : Array TypeId} {b args : Array Value} (i : jv E fv = .func (.func f) #[] b) (he : ∀ args w, (callFunc f args).run P w = .ok (.enter f args) w) (ha : ax.map (jv E) ++ b = args) (h : Calls P f args W fun e j => ∃ v, e = .returned v ∧ K v j) : mD P E ⟨d, .call ⟨.value fv, ax, ats⟩, ty, pos, af, g⟩ W K :=
 .inr (.inr ⟨f, args, L6 i he ha, h⟩)
theorem DU {K : Value → World → Prop} {f : FuncId} {fv : Operand} {ax : Array Operand} {ats : Array TypeId} {args : List Value} {v : Value} (b : ST dd F w W μ L) (l : jv E fv = .func (.func f) #[] #[]) (he : ∀ args w, (callFunc f args).run P w = .ok (.enter f args) w) (ha : (ax.map (jv E) ++ (#[] : Array Value)) = args.toArray) (j : kf dd P f args W v) (h : ∀ W', ST dd F w W' μ L → K v W') : mD P E ⟨d, .call ⟨.value fv, ax, ats⟩, ty, pos, af, g⟩ W K :=
 DS l he ha (cW j (fun _ _ ⟨h1, i⟩ => ⟨v, h1, h _ (b.Fg i)⟩))
def jL {α : Type} (e : TypeId) (enc : α → List Value) (k : Nat) (v : Value) (l : List α) (R : List (Nat × Obj)) : Prop :=
 (v = .slice none 0 0 ∧ l = [] ∧ R = []) ∨
 ∃ g cap b, v = .slice (some ⟨g, 0, none⟩) l.length cap ∧ R = [(g, .cells b e (0, 0))] ∧ l.length ≤ cap ∧ cap ≤ maxLen ∧ b.size = cap * k ∧ b.toList.take (l.length * k) = (l.map enc).flatten
theorem oW {α : Type} {enc : α → List Value} {k : Nat} (hk : ∀ x, (enc x).length = k) : ∀ l : List α, (l.map enc).flatten.length = l.length * k
 | [] => by simp
 | x :: l => by simp [oW hk l, hk x, cM, Nat.add_comm]
theorem wL {α : Type} {enc : α → List Value} {k : Nat} (hk : ∀ x, (enc x).length = k) : ∀ (l : List α) (i : Nat) (x : α), l[i]? = some x → ∀ j y, (enc x)[j]? = some y → (l.map enc).flatten[i * k + j]? = some y
 | [], i, x, h => by cases h
 | z :: l, 0, x, h => by
  simp at h; subst h
  intro j y b
  have d : j < (enc z).length := (aW.1 b).1
  simp [fu, d]
  rw [dC d] at b
  simpa using b
 | z :: l, i + 1, x, h => by
  intro j y b
  have := wL hk l i x (by simpa using h) j y b
  simp only [bF, bL]
  rw [eF (by rw [hk z]; have := Nat.le_mul_of_pos_left k (Nat.succ_pos i); simp [cM] at *; omega), hk z]
  rw [show (i + 1) * k + j - k = i * k + j by rw [cM]; omega]
  exact this
theorem ER {α : Type} {enc : α → List Value} {k : Nat} (hk : ∀ x, (enc x).length = k) : ∀ (l : List α) (q : Nat) (y : Value), (l.map enc).flatten[q]? = some y → ∃ i x j, l[i]? = some x ∧ (enc x)[j]? = some y ∧ q = i * k + j
 | [], q, y, h => by simp at h
 | z :: l, q, y, h => by
  simp only [bF, bL] at h
  by_cases d : q < k
  ·rw [fD (by rw [hk]; exact d)] at h
   exact ⟨0, z, q, rfl, h, by simp⟩
  ·rw [eF (by rw [hk]; omega), hk] at h
   obtain ⟨i, x, j, h1, b, m⟩ := ER hk l (q - k) y h
   exact ⟨i + 1, x, j, by simpa using h1, b, by rw [cM]; omega⟩
theorem jL.nil {α : Type} (e : TypeId) (enc : α → List Value) (k : Nat) : jL e enc k (.slice none 0 0) [] [] := .inl ⟨rfl, rfl, rfl⟩
theorem jL.sl {α : Type} {e : TypeId} {enc : α → List Value} {k : Nat} {v : Value} {l : List α} {R : List (Nat × Obj)} {m : jN} (h : jL e enc k v l R) (hk : ∀ x, (enc x).length = k) (hm : ∀ b o, (b, o) ∈ R → m b = some o) : Sl (Pl enc) k m v l := by
 rcases h with ⟨rfl, rfl, rfl⟩ | ⟨g, cap, d, rfl, rfl, h1, p, t, q⟩
 ·exact Sl.nil _ _ _
 ·refine ⟨_, cap, rfl, h1, p, fun _ => ⟨g, 0, d, e, (0, 0), rfl, hm _ _ (by simp), fun i x r => ⟨enc x, hk x, rfl, fun j y s => ?_⟩⟩⟩
  have := wL hk l i x r j y s
  rw [← q] at this
  have n : i * k + j < l.length * k := by
   have := (aW.1 this).1
   simp at this; omega
  rw [dq n] at this
  simpa using this
theorem jL.len {α : Type} {e : TypeId} {enc : α → List Value} {k : Nat} {v : Value} {l : List α} {R : List (Nat × Obj)} (h : jL e enc k v l R) : l.length ≤ 9223372036854775807 := by
 rcases h with ⟨rfl, rfl, rfl⟩ | ⟨g, cap, b, rfl, rfl, h1, d, i, j⟩
 ·simp
 ·unfold maxLen at d; omega
theorem jL.fr {α : Type} {e : TypeId} {enc : α → List Value} {k : Nat} {v : Value} {l : List α} {R X Y : List (Nat × Obj)} (h : jL e enc k v l R) (d : ST dd lB w W μ (X ++ (R ++ Y))) : Fr w.heap.size v := by
 rcases h with ⟨rfl, rfl, rfl⟩ | ⟨g, cap, j, rfl, rfl, h1, m, n, p⟩
 ·exact Fr.nil _
 ·intro b i
  simp [Value.ownBlock] at i
  subst i
  rcases (d.box g _ (by simp; exact .inr (.inl rfl))).2.2 with h | h
  ·exact h
  ·exact h.elim
theorem jL.lit {α : Type} {e : TypeId} {enc : α → List Value} {k b m : Nat} {l : List α} {cs : Array Value} (hm : l.length = m) (h : m ≤ maxLen) (i : cs.toList = (l.map enc).flatten) (d : cs.size = m * k) : jL e enc k (.slice (some ⟨b, 0, none⟩) m m) l [(b, .cells cs e (0, 0))] := by
 subst hm
 refine .inr ⟨b, _, cs, rfl, rfl, aR _, h, d, ?_⟩
 rw [← i, ← d]
 exact dA (by rw [dt]; exact aR _)
def lC {α : Type} (b : Nat) (l m : List α) : Option (List α) := if (l.length + m.length) * b ≤ 140737488355328 ∧ l.length + m.length ≤ maxLen then some (l ++ m) else none
theorem Ib {K : Value → World → Prop} {α : Type} {e t : TypeId} {enc : α → List Value} {k ab : Nat} {z v vs : Value} {l m r : List α} {R : List (Nat × Obj)} (X : List (Nat × Obj)) {Y : List (Nat × Obj)} {x y : Operand} {i : TypeInfo} (p : ST dd F w W μ (X ++ (R ++ Y))) (hk : ∀ x, (enc x).length = k) (b2 : 0 < k) (h1 : ∀ x, ∀ u ∈ enc x, u.oneCell' = true) (ht : P.underlying t = some (.slice e)) (hi : P.info? e = some i) (hz : i.zero = some z) (b6 : z.cells.size = k) (b3 : i.size = k) (b0 : i.bytes = ab) (hx : jv E x = v) (hy : jv E y = vs) (hR : jL e enc k v l R) (hs : Sl (Pl enc) k (hp W) vs m) (n : lC ab l m = some r) (h : ∀ W' v' R', ST dd F w W' μ (X ++ (R' ++ Y)) → jL e enc k v' r R' → K v' W') : mD P E ⟨d, .call ⟨.builtin .append, #[x, y], #[t, t]⟩, ty, pos, af, g⟩ W K := by
 unfold lC at n
 split at n
 case isFalse => cases n
 rename_i aj
 cases n
 have aa : ∀ (V : Value) (W' : World), (Builtin.append_ #[t, t] ty #[v, vs]).run P W = .ok V W' → (execOp (jv E) ⟨d, .call ⟨.builtin .append, #[x, y], #[t, t]⟩, ty, pos, af, g⟩).run P W = .ok (.value V) W' := by
  intro V W' hV
  show (do let d ← resolve (jv E) ⟨.builtin .append, #[x, y], #[t, t]⟩ ty; invoke d.target d.args : Sem Next).run P W = _
  simp [resolve, invoke, builtin, hx, hy, hV]
 obtain ⟨A, c, rfl, ba, bc, b1⟩ := hs
 have a8 : W.ownsRow 0 e k v l.length (l.map enc).flatten := by
  refine ⟨oW hk l, ?_⟩
  rcases hR with ⟨rfl, rfl, rfl⟩ | ⟨g, cap, J, rfl, rfl, h1, h2, h3, h4⟩
  ·exact .inl ⟨rfl, rfl⟩
  ·exact .inr ⟨g, cap, J, rfl, ep _, (p.box g _ (by simp)).1, h1, h2, h3, h4⟩
 have au : m.length = 0 ∨ ∃ ad, A = some ad ∧ ∀ j u, (m.map enc).flatten[j]? = some u → W.cell? (ad.add j) = some u := by
  rcases ee m.length with O | O
  ·exact .inl O
  ·obtain ⟨b, off, cs, T, fr, rfl, h6, h7⟩ := b1 O
   refine .inr ⟨⟨b, off, none⟩, rfl, fun j u hu => ?_⟩
   obtain ⟨i, x, q, h8, h9, rfl⟩ := ER hk m j u hu
   obtain ⟨ys, _, aw, ay⟩ := h7 i x h8
   cases aw
   rw [dz, ft W b (off + (i * k + q)) cs T fr h6, ← dW]
   exact ay q u h9
 have ar : ∀ u ∈ (m.map enc).flatten, u.oneCell' = true := by
  intro u hu
  obtain ⟨ys, b5, b4⟩ := iH.1 hu
  obtain ⟨x, _, rfl⟩ := bH.1 b5
  exact h1 x u b4
 by_cases ao : m.length = 0
 ·have hm : m = [] := aO ao
  subst hm
  have hr : (Builtin.append_ #[t, t] ty #[v, .slice A 0 c]).run P W = .ok v W := by
   rcases a8.2 with ⟨rfl, O⟩ | ⟨g, cap, J, rfl, _, hg, ap, _, bd, _⟩
   ·cases A with
    | none => simp [Builtin.append_, aS ht, sizeOf, typeInfo, hi, Builtin.lenOf, Builtin.firstCells]
    | some ad => simp [Builtin.append_, aS ht, sizeOf, typeInfo, hi, Builtin.lenOf, Builtin.firstCells, loadCells, loadCellsFrom]
   ·cases A with
    | none => simp [Builtin.append_, aS ht, sizeOf, typeInfo, hi, Builtin.lenOf, Builtin.firstCells, ap, storeCells]
    | some ad => simp [Builtin.append_, aS ht, sizeOf, typeInfo, hi, Builtin.lenOf, Builtin.firstCells, loadCells, loadCellsFrom, ap, storeCells]
  exact .inl ⟨v, W, aa _ _ (by simpa using hr), by simpa using h W v R p (by simpa using hR)⟩
 rcases au with O | ⟨ad, rfl, a1⟩
 ·exact absurd O ao
 obtain ⟨v', W', hr, ah, s, b9, M⟩ := run_append_own_at (P := P) W 0 t ty e i z k ab ht hi hz b3 b0 b6 b2 v l.length (l.map enc).flatten a8 ad m.length c (m.map enc).flatten (oW hk m) a1 ar aj.2 aj.1 (ep _)
 have ae := nC _ _ _ _ hr
 refine .inl ⟨v', W', aa _ _ hr, ?_⟩
 have hlen : (l ++ m).length = l.length + m.length := by simp
 rcases ah.2 with ⟨_, O⟩ | ⟨U, a6, a7, rfl, _, ag, b7, ak, al, av⟩
 ·omega
 have ai : jL e enc k (.slice (some ⟨U, 0, none⟩) (l.length + m.length) a6) (l ++ m) [(U, .cells a7 e (0, 0))] :=
  .inr ⟨U, a6, a7, by rw [hlen], rfl, by omega, ak, al, by rw [hlen, av]; simp⟩
 refine h W' _ _ ?_ ai
 have aq := p.nd
 rcases hR with ⟨rfl, rfl, rfl⟩ | ⟨g, cap, J, rfl, rfl, q1, q2, q3, q4⟩
 ·-- nil: a new block
  have Z : W.heap.size ≤ U := by
   rcases M with h | h <;> simp [Value.ownBlock] at h
   omega
  have hex : Ex dd W W' := ⟨s.os, s.tape, s.output, ry.of ae, s.size, fun b n => s.block b n (by simp [Value.ownBlock])⟩
  have h1 := p.Fg hex
  refine ⟨h1.os, h1.tape, h1.output, h1.drawn, h1.size, h1.lF, h1.mem, fun b o n => ?_, ?_⟩
  ·simp only [aN, bK] at n
   rcases n with n | n | n
   ·exact h1.box b o (by simp [n])
   ·cases n
    refine ⟨ag, ?_, .inl (dy p.size Z)⟩
    cases hm : μ U with
    | none => rfl
    | some x => have := p.BV hm; omega
   ·exact h1.box b o (by simp [n])
  ·simp only [bD, bY, bF, fi] at aq ⊢
   refine (fF eE).2 (cY.2 ⟨fun hm => ?_, aq⟩)
   rw [← bY] at hm
   obtain ⟨⟨b, o⟩, n, L⟩ := bH.1 hm
   have aE : (b, o) ∈ X ++ ([] ++ Y) := by simpa using n
   have := p.CQ aE
   simp at L
   omega
 ·by_cases an : U = g
  ·subst an
   have O : ST dd F w W μ (X ++ (U, Obj.cells J e (0, 0)) :: Y) := by simpa using p
   have hold : ∀ b, b < W.heap.size → b ≠ U → W'.heap[b]? = W.heap[b]? := fun b n I => s.block b n (by simp [Value.ownBlock]; exact I)
   have G := O.nd
   simp only [bY, bF] at G
   have I : ∀ b o, (b, o) ∈ X ++ Y → b ≠ U := fun b o n L => by
    subst L
    rcases aN.1 n with n | n
    ·exact (bQ.1 G).2.2 b (bH.2 ⟨_, n, rfl⟩) b (by simp) rfl
    ·exact (cY.1 (bQ.1 G).2.1).1 (bH.2 ⟨_, n, rfl⟩)
   have Q := O.box U (Obj.cells J e (0, 0)) (by simp)
   refine ⟨s.os.trans p.os, s.tape.trans p.tape, s.output.trans p.output, ry.trans p.drawn (ry.of ae), dy p.size s.size, fun b n hF => ?_, fun b o n => ?_, fun b o n => ?_, by simpa using G⟩
   ·rw [hold b (dT n p.size) (fun L => by subst L; rcases Q.2.2 with h | h; omega; exact hF h)]
    exact p.lF b n hF
   ·rw [hold b (p.BV n) (fun L => by subst L; rw [Q.2.1] at n; cases n)]
    exact p.mem b o n
   ·simp only [aN, bK] at n
    rcases n with n | n | n
    ·obtain ⟨r1, r2⟩ := p.box b o (by simp [n])
     exact ⟨by rw [hold b (nq r1) (I b o (by simp [n]))]; exact r1, r2⟩
    ·cases n; exact ⟨ag, Q.2⟩
    ·obtain ⟨r1, r2⟩ := p.box b o (by simp [n])
     exact ⟨by rw [hold b (nq r1) (I b o (by simp [n]))]; exact r1, r2⟩
  ·have Z : W.heap.size ≤ U := by
    rcases M with h | h <;> simp [Value.ownBlock] at h
    ·exact absurd h an
    ·omega
   have O : ST dd F w W μ (X ++ (g, Obj.cells J e (0, 0)) :: Y) := by simpa using p
   have Q := O.box g (Obj.cells J e (0, 0)) (by simp)
   have G := O.nd
   simp only [bY, bF] at G
   have I : ∀ b o, (b, o) ∈ X ++ Y → b ≠ g := fun b o n L => by
    subst L
    rcases aN.1 n with n | n
    ·exact (bQ.1 G).2.2 b (bH.2 ⟨_, n, rfl⟩) b (by simp) rfl
    ·exact (cY.1 (bQ.1 G).2.1).1 (bH.2 ⟨_, n, rfl⟩)
   have hold : ∀ b, b < W.heap.size → b ≠ g → W'.heap[b]? = W.heap[b]? := fun b n I => s.block b n (by simp [Value.ownBlock]; exact I)
   refine ⟨s.os.trans p.os, s.tape.trans p.tape, s.output.trans p.output, ry.trans p.drawn (ry.of ae), dy p.size s.size, fun b n hF => ?_, fun b o n => ?_, fun b o n => ?_, ?_⟩
   ·rw [hold b (dT n p.size) (fun L => by subst L; rcases Q.2.2 with h | h; omega; exact hF h)]
    exact p.lF b n hF
   ·rw [hold b (p.BV n) (fun L => by subst L; rw [Q.2.1] at n; cases n)]
    exact p.mem b o n
   ·simp only [aN, bK] at n
    rcases n with n | n | n
    ·obtain ⟨r1, r2⟩ := p.box b o (by simp [n])
     exact ⟨by rw [hold b (nq r1) (I b o (by simp [n]))]; exact r1, r2⟩
    ·cases n
     refine ⟨ag, ?_, .inl (dy p.size Z)⟩
     cases hm : μ U with
     | none => rfl
     | some x => have := p.BV hm; omega
    ·obtain ⟨r1, r2⟩ := p.box b o (by simp [n])
     exact ⟨by rw [hold b (nq r1) (I b o (by simp [n]))]; exact r1, r2⟩
   ·have az : (X.map (·.1) ++ Y.map (·.1)).Nodup := (cY.1 ((fF eE).1 G)).2
    simp only [bY, bF, fi]
    refine (fF eE).2 (cY.2 ⟨fun hm => ?_, az⟩)
    rw [← bY] at hm
    obtain ⟨⟨b, o⟩, n, L⟩ := bH.1 hm
    have := p.CQ (b := b) (o := o) (by rcases aN.1 n with h | h <;> simp [h])
    simp at L
    omega
end
end Go.Proofs.YtjjjihkifgdhgaaGreatDoor
namespace Go.Proofs.YtjjjihkifgdhgaaGreatDoor
open Go.RowKit
variable [M : Md]
def Al (l : List Value) : Nat → Value := fun t => l.getD t undef
def vM (P : Program) (fn : Func) (R : Ending → World → Prop) : pk
 | .normal, E, W | .ret, E, W => ∃ v, (∀ tmps : Array Value, (∀ t, tmps.getD t undef = E t) → (results fn tmps).run P W = .ok v W) ∧ R (.returned v) W
 | _, _, _ => False
theorem vY {P : Program} {f : FuncId} {fn : Func} {c : Code} {args : List Value} {w : World} {R : Ending → World → Prop} {n : Nat} (r : P.funcs[f]? = some fn) (q : fn.body = some c) (s : fn.ntmps = n) (ha : args.length ≤ n) (h : @CW zD P n c (vM P fn R) (Al args) w) : Calls P f args.toArray w R := by
 refine calls_of_wp r q ?_
 have j : @Ag zD n { tmps := args.toArray ++ Array.replicate (fn.ntmps - args.toArray.size) undef, defers := [] } (Al args) := by
  refine ⟨by simp; omega, rfl, fun t => ?_⟩
  simp only [Al, ey, List.getD_eq_getElem?_getD, Array.getElem?_append, Array.getElem?_replicate, dw, gr]
  by_cases p : t < args.length
  ·rw [aZ p]
  ·rw [aY p, fj (by omega)]
   split <;> simp
 refine wp_mono ((wpIn_wide (n := 0)).1 (h _ j)) (fun e a u d => ?_)
 cases e with
 | normal =>
  obtain ⟨E, b, v, m, i⟩ := d
  exact ⟨b.2.1, v, m _ b.2.2, i⟩
 | ret =>
  obtain ⟨E, b, v, m, i⟩ := d
  exact ⟨b.2.1, v, m _ b.2.2, i⟩
 | exit id => obtain ⟨E, b, h⟩ := d; exact h.elim
 | goto l => obtain ⟨E, b, h⟩ := d; exact h.elim
 | panic c => exact d.2.elim
 | outgrown => exact d.elim
section
variable {P : Program} {fn : Func} {R : Ending → World → Prop} {E : Nat → Value} {W : World}
theorem kV {r : Tmp} {v : Value} (b : fn.results = #[.tmp r]) (i : E r = v) (h : R (.returned v) W) : vM P fn R .ret E W :=
 ⟨v, fun tmps d => by rw [results_tmp b, d, i], h⟩
theorem CZ {r s : Tmp} {v u : Value} (d : fn.results = #[.tmp r, .tmp s]) (i : E r = v) (hu : E s = u) (h : R (.returned (.tuple #[v, u])) W) : vM P fn R .ret E W :=
 ⟨.tuple #[v, u], fun tmps b => by rw [results_tmp2 d, b, b, i, hu], h⟩
theorem nE (b : fn.results = #[]) (h : R (.returned (.tuple #[])) W) : vM P fn R .ret E W :=
 ⟨.tuple #[], fun tmps _ => by rw [results_none b], h⟩
theorem pu {r : Tmp} {t : TypeId} {a : Addr} {v : Value} (b : fn.results = #[.cell r t]) (j : E r = .pointer (some a)) (i : (Instr.loadAt t (.pointer (some a))).run P W = .ok v W) (h : R (.returned v) W) : vM P fn R .ret E W :=
 ⟨v, fun tmps d => by
  have h1 : (loadVar t a).run P W = .ok v W := by simpa [Instr.loadAt, Instr.sureAddr] using i
  simp [results, b, d, j, asAddr, h1], h⟩
theorem oD (h : vM P fn R .ret E W) : vM P fn R .normal E W := h
end
section
variable {Q : pk} {E : Nat → Value} {W : World} {K : (Nat → Value) → World → Prop} {id j : Nat}
theorem kl (h : Q .normal E W) : uU id Q .normal E W := h
theorem nw (h : Q .ret E W) : uU id Q .ret E W := h
theorem rN (h : Q .normal E W) : uU id Q (.exit id) E W := by simp [uU]; exact h
theorem QB (b : (j = id) = False) (h : Q (.exit j) E W) : uU id Q (.exit j) E W := by simp only [uU, b, aG]; exact h
theorem jE (h : K E W) : pD K Q .normal E W := h
theorem kZ (h : Q .ret E W) : pD K Q .ret E W := h
theorem mU (h : Q (.exit j) E W) : pD K Q (.exit j) E W := h
end
theorem Mb {i N : Nat} (d : i < N) (b : N ≤ 9223372036854775807) : IntKind.i64.wrap ((i : Int) + 1) = ((i + 1 : Nat) : Int) := by
 rw [IntWalk.i64_in _ (by omega)]
 omega
theorem lh {P : Program} {n : Nat} {Q : pk} {E : Nat → Value} {W : World} {p t r2 r6 q r G w : Nat} {t1 t2 t3 t4 t5 t6 t7 : TypeId} {U Y Z : String} {f1 f2 f3 : Array Edge} {body : Code} (I : Nat → (Nat → Value) → World → Prop) (N : Nat) (O : N ≤ 9223372036854775807) (J : I 0 E W) (R : q < n) (T : w < n) (A : r < n) (M : ∀ i E W, I i E W → E r = .int .i64 (i : Nat) ∧ E G = .int .i64 (N : Nat)) (round : ∀ i E W, i < N → I i E W → CW P n (.block t body) (pD (fun E' W' => E' r = .int .i64 (i : Nat) ∧ I (i + 1) (nA (nA E' w (.int .i64 ((i + 1 : Nat) : Int))) r (.int .i64 ((i + 1 : Nat) : Int))) W') (uU p Q)) (nA E q (.bool true)) W) (done : ∀ E W, I N E W → Q .normal (nA E q (.bool false)) W) :
  CW P n (.block p (.loop (.seq (.region r2 #[⟨some q, .binOp .lss t1 (.tmp r) (.tmp G) t2, t3, U, f1, none⟩] false)
   (.seq (.cond (.tmp q) .skip (.exit p)) (.seq (.block t body)
    (.region r6 #[⟨some w, .binOp .add t4 (.tmp r) (.const (.int .i64 1)) t5, t6, Y, f2, none⟩, ⟨some r, .move (.tmp w), t7, Z, f3, none⟩] false)))))) Q E W := by
 refine lK (nI (fun m E W => ∃ i, i ≤ N ∧ m = N - i ∧ I i E W) N ⟨0, ep _, by omega, J⟩ ?_)
 rintro m E W ⟨i, hi, rfl, d⟩
 obtain ⟨x, y⟩ := M i E W d
 refine jI (jF (Gz (.inl rfl) rfl R (kC x y rfl) (kd ?_)))
 refine jE (jI ?_)
 have u : nA E q (.bool (decide ((i : Int) < (N : Int)))) q = .bool (decide ((i : Int) < (N : Int))) := by simp [nA]
 by_cases s : i < N
 ·have z : decide ((i : Int) < (N : Int)) = true := by simp; omega
  rw [z] at u ⊢
  refine vl u (lE (jE (jI ?_)))
  refine Gl (round i E W s d) (fun e E' W' h => ?_)
  cases e with
  | normal =>
   obtain ⟨h1, L⟩ := h
   refine jE ?_
   have hw : IntKind.i64.wrap ((i : Int) + 1) = ((i + 1 : Nat) : Int) := Mb s O
   refine jF (Gz (v := .int .i64 ((i + 1 : Nat) : Int)) (.inl rfl) rfl T (kC (k := .i64) (a := (i : Int)) (b := 1) h1 rfl (by simp only [Hx, hw])) ?_)
   refine Gz (v := .int .i64 ((i + 1 : Nat) : Int)) (.inl rfl) rfl A (jB (by simp [jv, nA])) (kd ?_)
   exact jE ⟨N - (i + 1), by omega, i + 1, by omega, rfl, L⟩
  | exit j => exact h
  | goto l => exact h
  | ret => exact h
  | panic c => exact h
  | outgrown => exact h
 ·have z : decide ((i : Int) < (N : Int)) = false := by simp; omega
  rw [z] at u ⊢
  obtain rfl : i = N := by omega
  refine pF u (nv (mU (mU (rN ?_))))
  exact done E W d
theorem Mp {P : Program} {n : Nat} {x : Code} {Q : pk} {K : (Nat → Value) → World → Prop} {E : Nat → Value} {W : World} (J : (Nat → Value) → World → Prop) (h : CW P n x (pD J Q) E W) (k : ∀ E W, J E W → K E W) : CW P n x (pD K Q) E W :=
 Gl h (fun e E W h => by cases e <;> first | exact k E W h | exact h)
theorem PY {α : Type} {c : Bool} {x y r : α} (b : c = true) (h : (if c = true then x else y) = r) : x = r := by rw [aZ b] at h; exact h
theorem P3 {α : Type} {c : Bool} {x y r : α} (b : c = false) (h : (if c = true then x else y) = r) : y = r := by rw [aY (by rw [b]; decide)] at h; exact h
theorem bind_some {α β : Type} {o : Option α} {f : α → Option β} {r : β} (h : o.bind f = some r) : ∃ y, o = some y ∧ f y = some r := by
 cases o with
 | none => cases h
 | some y => exact ⟨y, rfl, h⟩
theorem Lg (b : Bool) : b = true ∨ b = false := by cases b <;> simp
theorem kM {α : Type} {l : List α} {i : Nat} (h : i < l.length) : ∃ x xs, l.drop i = x :: xs ∧ l[i]? = some x ∧ l.drop (i + 1) = xs := by
 cases b : l.drop i with
 | nil => have := bA List.length b; simp at this; omega
 | cons x xs => exact ⟨x, xs, rfl, by rw [← List.head?_drop, b]; rfl, by rw [← List.drop_drop, b]; rfl⟩
theorem De {P : Program} {W : World} (d : Nat) (xs ys : Array Value) : (Op.eqFields d xs ys []).run P W = .ok true W := by simp [Op.eqFields]
theorem pY {P : Program} {W : World} {d : Nat} {xs ys : Array Value} {f : Field} {fs : List Field} {a b : Value} {r s : Bool} (j : f.name ≠ "_") (ha : (part f.type xs f.offset).run P W = .ok a W) (i : (part f.type ys f.offset).run P W = .ok b W) (he : (Op.equalIn d f.type a b).run P W = .ok r W) (h : (Op.eqFields d xs ys fs).run P W = .ok s W) : (Op.eqFields d xs ys (f :: fs)).run P W = .ok (r && s) W := by
 simp only [Op.eqFields, ne_eq, j, not_false_eq_true, aJ, bZ, ha, i, he, bM]
 cases r <;> simp [h]
theorem xY {P : Program} {W : World} {t : TypeId} {k : Nat} {cs : Array Value} {off : Nat} {v : Array Value} (b : ∀ w, (isAgg t).run P w = .ok true w) (d : ∀ w, (sizeOf t).run P w = .ok k w) (h : cs.extract off (off + k) = v) : (part t cs off).run P W = .ok (.agg v) W := by
 simp [part, b W, d W, h]
theorem ra {P : Program} {W : World} {t : TypeId} {cs : Array Value} {off : Nat} {v : Value} (b : ∀ w, (isAgg t).run P w = .ok false w) (d : cs[off]? = some v) : (part t cs off).run P W = .ok v W := by
 simp [part, b W, d]
def kv (a b : ByteArray) : Bool := a.toList == b.toList
theorem N4 {P : Program} {t : TypeId} (h : P.underlying t = some .string) (d : Nat) (a b : ByteArray) (W : World) : (Op.equalIn (d + 1) t (.string a) (.string b)).run P W = .ok (kv a b) W := run_equalIn_string W d t a b h
theorem Sq {P : Program} {t : TypeId} {k : IntKind} (h : P.underlying t = some (.int k)) (d : Nat) (a b : Int) (W : World) : (Op.equalIn (d + 1) t (.int k a) (.int k b)).run P W = .ok (a == b) W := run_equalIn_int W d t k k a b h
theorem sI {P : Program} {op : BinOp} {t : TypeId} {x y : Operand} {a b : Array Value} (d : P.eqGuardType P.depth t = false) (W : World) : (eqGuard op t x y (.agg a) (.agg b)).run P W = .ok () W := by
 cases op <;> simp [eqGuard] <;> (intro h; rw [d] at h; cases h)
theorem wW {P : Program} {t : TypeId} {a b : Array Value} {r : Bool} (h : ∀ W, (Op.equalIn Op.maxDepth t (.agg a) (.agg b)).run P W = .ok r W) (W : World) : (binOp .eql t (.agg a) (.agg b)).run P W = .ok (.bool r) W := by
 simp [binOp, Op.equal, h W]
theorem Oz {P : Program} {t : TypeId} {a b : Array Value} {r : Bool} (h : ∀ W, (Op.equalIn Op.maxDepth t (.agg a) (.agg b)).run P W = .ok r W) (W : World) : (binOp .neq t (.agg a) (.agg b)).run P W = .ok (.bool !r) W := by
 simp [binOp, Op.equal, h W]
end Go.Proofs.YtjjjihkifgdhgaaGreatDoor
namespace Go.Proofs.YtjjjihkifgdhgaaGreatDoor
open Go.RowKit
variable [M : Md]
variable {dd : Bool}
def ku (k : IntKind) (x : Int) : List Value := [.int k x]
def B0 (x : ByteArray) : List Value := [.string x]
theorem DL (k : IntKind) (x : Int) : ∀ u ∈ ku k x, u.oneCell' = true := by intro u hu; simp [ku] at hu; subst hu; rfl
theorem P7 (x : ByteArray) : ∀ u ∈ B0 x, u.oneCell' = true := by intro u hu; simp [B0] at hu; subst hu; rfl
def zS : ByteArray := ⟨#[]⟩
def pg (a b : ByteArray) : Bool := Op.bytesLess a.toList b.toList
@[irreducible] def jP : Nat := 18446744073709551616
theorem vA : jP = 18446744073709551616 := by unfold jP; rfl
def kF {α : Type} (l : List α) (i : Int) : Option α := if 0 ≤ i then l[i.toNat]? else none
theorem jU {α : Type} {l : List α} {i : Int} {x : α} (h : kF l i = some x) : 0 ≤ i := by
 unfold kF at h; split at h
 ·assumption
 ·cases h
theorem jS {α : Type} {l : List α} {i : Int} {x : α} (h : kF l i = some x) : l[i.toNat]? = some x := by
 unfold kF at h; split at h
 ·exact h
 ·cases h
theorem DQ {α : Type} (l : List α) (i : Nat) : kF l (i : Int) = l[i]? := by simp [kF]
def yZ (s : ByteArray) (i : Int) : Option UInt8 := if 0 ≤ i then s[i.toNat]? else none
theorem Ji {s : ByteArray} {i : Int} {x : UInt8} (h : yZ s i = some x) : 0 ≤ i := by
 unfold yZ at h; split at h
 ·assumption
 ·cases h
theorem Nh {s : ByteArray} {i : Int} {x : UInt8} (h : yZ s i = some x) : s[i.toNat]? = some x := by
 unfold yZ at h; split at h
 ·exact h
 ·cases h
section
variable {F : Nat → Prop} {w W : World} {μ : jN} {L L' : List (Nat × Obj)} {α : Type} {e : TypeId} {enc : α → List Value} {k : Nat} {v : Value} {l : List α} {R : List (Nat × Obj)}
theorem ST.at_ (h : ST dd F w W μ L) {b : Nat} {o : Obj} (d : (b, o) ∈ L) : hp W b = some o := (h.box b o d).1
theorem jL.RG (h : jL e enc k v l R) (hk : ∀ x, (enc x).length = k) (b : ST dd F w W μ L) (d : ∀ p, p ∈ R → p ∈ L) : Sl (Pl enc) k (hp W) v l :=
 h.sl hk (fun _ _ i => b.at_ (d _ i))
theorem jL.form (h : jL e enc k v l R) : ∃ A c, v = .slice A l.length c := by
 rcases h with ⟨rfl, rfl, rfl⟩ | ⟨g, cap, b, rfl, rfl, h1, d, i, j⟩
 ·exact ⟨_, _, rfl⟩
 ·exact ⟨_, _, rfl⟩
theorem Sl.form {R : oP α} (h : Sl R k μ v l) : ∃ A c, v = .slice A l.length c := let ⟨A, c, h, _⟩ := h; ⟨A, c, h⟩
theorem jL.LC (h : jL e enc k v l R) (i : ST dd lB w W μ L) (m : ∀ p, p ∈ R → p ∈ L) : Fr w.heap.size v := by
 rcases h with ⟨rfl, rfl, rfl⟩ | ⟨g, cap, d, rfl, rfl, h1, n, q, r⟩
 ·exact Fr.nil _
 ·intro b j
  simp [Value.ownBlock] at j
  subst j
  rcases (i.box g (.cells d e (0, 0)) (m _ (bK.2 rfl))).2.2 with h | h
  ·exact h
  ·exact h.elim
theorem Sl.lit {b m : Nat} {cs : Array Value} (hk : ∀ x, (enc x).length = k) (hm : l.length = m) (i : m ≤ maxLen) (d : cs.toList = (l.map enc).flatten) (j : μ b = some (.cells cs e (0, 0))) : Sl (Pl enc) k μ (.slice (some ⟨b, 0, none⟩) m m) l :=
 (jL.lit (e := e) (b := b) hm i d (by have := bA List.length d; rw [oW hk, dt, hm] at this; exact this)).sl hk (fun n o h => by simp at h; obtain ⟨rfl, rfl⟩ := h; exact j)
theorem Fr.box (h : ST dd lB w W μ L) {b m c : Nat} {o : Obj} (i : (b, o) ∈ L) : Fr w.heap.size (.slice (some ⟨b, 0, none⟩) m c) := by
 intro j d
 simp [Value.ownBlock] at d
 subst d
 rcases (h.box b o i).2.2 with h | h
 ·exact h
 ·exact h.elim
theorem ST.perm (h : ST dd F w W μ L) (hp : L.Perm L') : ST dd F w W μ L' :=
 ⟨h.os, h.tape, h.output, h.drawn, h.size, h.lF, h.mem, fun b o d => h.box b o (hp.mem_iff.2 d), (hp.map _).nodup_iff.1 h.nd⟩
theorem ST.sublist (h : ST dd F w W μ L) (d : L'.Sublist L) : ST dd F w W μ L' :=
 ⟨h.os, h.tape, h.output, h.drawn, h.size, h.lF, h.mem, fun b o i => h.box b o (d.subset i), h.nd.sublist (d.map _)⟩
end
section
variable {E : Nat → Value} {x1 x2 x3 x4 x5 x6 : Operand} {v1 v2 v3 v4 v5 v6 : Value}
theorem tZ (h1 : jv E x1 = v1) : #[x1].map (jv E) ++ (#[] : Array Value) = [v1].toArray := by simp [h1]
theorem vC (h1 : jv E x1 = v1) (b : jv E x2 = v2) : #[x1, x2].map (jv E) ++ (#[] : Array Value) = [v1, v2].toArray := by simp [h1, b]
end
theorem G3 : ∀ (v : List Value) (i off : Nat) (cells : Array Value), off + i + v.length ≤ cells.size →
  (v.zipIdx i).foldl (fun cs (c, j) => cs.setIfInBounds (off + j) c) cells = (cells.toList.take (off + i) ++ v ++ cells.toList.drop (off + i + v.length)).toArray
 | [], i, off, cells, h => by simp
 | c :: v, i, off, cells, h => by
  simp only [iI, fM]
  simp only [aH] at h
  rw [G3 v (i + 1) off _ (by simp; omega)]
  have l : off + i < cells.toList.length := by simp; omega
  congr 1
  rw [Array.toList_setIfInBounds]
  apply eu
  intro j
  have m : (cells.toList.take (off + i)).length = off + i := by simp; omega
  by_cases h1 : j < off + i
  ·simp only [fu, aC, cU, gG, dt, aH, eV, eK, dM]
   rw [show min (off + (i + 1)) cells.size = off + (i + 1) by omega, show min (off + i) cells.size = off + i by omega]
   rw [aZ (by omega), aZ (by omega), aZ (by omega), aY (by omega), aZ (by omega), aZ (by omega), aZ (by omega)]
  ·by_cases d : j = off + i
   ·subst d
    simp [fu, eV, eK, show off + i < off + (i + 1) by omega]
    rw [aZ (by omega), aZ (by omega), aY (by omega), show off + i - min (off + i) cells.size = 0 by omega]
    rfl
   ·simp only [fu, aC, cU, gG, dt, aH, eV, eK, dM]
    rw [show min (off + (i + 1)) cells.size = off + (i + 1) by omega, show min (off + i) cells.size = off + i by omega]
    by_cases b : j < off + (i + 1) + v.length
    ·rw [aZ b, aY (by omega), aZ (by omega), aY (by omega)]
     rw [show j - (off + i) = (j - (off + (i + 1))) + 1 by omega]
     simp
    ·rw [aY b, aY (by omega), aY (by omega)]
     congr 1
     omega
theorem IJ {k : Nat} : ∀ (vs : List Value) (i : Nat) (pre rest : List Value), (∀ v ∈ vs, v.cells.size = k) → pre.length = i * k → rest.length = vs.length * k →
  Instr.fill (fun i => some (i * k, k)) (pre ++ rest).toArray ((vs.zipIdx i).map (fun p => (p.2, p.1))) = some (pre ++ vs.flatMap (fun v => v.cells.toList)).toArray
 | [], i, pre, rest, h, hp, d => by
  have : rest = [] := by cases rest <;> simp at d ⊢
  simp [Instr.fill, this]
 | v :: vs, i, pre, rest, h, hp, d => by
  have b := h v (by simp)
  have l : v.cells.zipIdx.foldl (fun cs (c, j) => cs.setIfInBounds (i * k + j) c) (pre ++ rest).toArray = (pre ++ v.cells.toList ++ rest.drop k).toArray := by
   have := G3 v.cells.toList 0 (i * k) (pre ++ rest).toArray (by simp [hp, d, b, cM])
   rw [← Array.toList_zipIdx, Array.foldl_toList] at this
   rw [this]
   congr 1
   simp [← hp, b]
  simp only [iI, bF, Instr.fill]
  rw [aY (by simp [b, hp, d, cM]), l]
  have := IJ vs (i + 1) (pre ++ v.cells.toList) (rest.drop k) (fun u hu => h u (by simp [hu])) (by simp [hp, b, cM]) (by simp [d, cM])
  rw [this]
  simp
theorem MV {k m : Nat} {b cs : Array Value} {d : Array (Nat × Value)} (vs : List Value) (j : d.toList = vs.zipIdx.map (fun p => (p.2, p.1))) (n : ∀ v ∈ vs, v.cells.size = k) (hm : vs.length = m) (l : b.size = m * k) (h : (vs.flatMap (fun v => v.cells.toList)).toArray = cs) : Instr.fill (fun i => some (i * k, k)) b d.toList = some cs := by
 subst hm h
 rw [j]
 have := IJ vs 0 [] b.toList n (by simp) (by simpa using l)
 simpa using this
theorem BL {P : Program} {t e : TypeId} {m k : Nat} {z : Value} {b : Array (Nat × Value)} {cs : Array Value} (vs : List Value) (l : P.underlying t = some (.slice e)) (j : ∀ w, (sizeOf e).run P w = .ok k w) (q : ∀ w, (zeroValue e).run P w = .ok z w) (hm : m * k ≤ 16777216) (i : b.toList = vs.zipIdx.map (fun p => (p.2, p.1))) (n : ∀ v ∈ vs, v.cells.size = k) (h : vs.length = m) (d : (vs.flatMap (fun v => v.cells.toList)).toArray = cs) (W : World) :
  (Instr.buildSlice t m b).run P W = .ok (.slice (some ⟨W.heap.size, 0, none⟩) m m) (W.alloc (.cells cs e (0, 0))) :=
 Ge l j q hm (MV vs i n h (by simp) d) W
theorem tJ {E : Nat → Value}  : (#[] : Array (Nat × Operand)).map (fun (i, x) => (i, jv E x)) = #[] := by simp
theorem mh {E : Nat → Value} {x0 : Operand} {v0 : Value} {i0 : Nat} (b : jv E x0 = v0) : (#[(i0, x0)] : Array (Nat × Operand)).map (fun (i, x) => (i, jv E x)) = #[(i0, v0)] := by simp [b]
theorem vZ {E : Nat → Value} {x0 x1 : Operand} {v0 v1 : Value} {i0 i1 : Nat} (b : jv E x0 = v0) (h1 : jv E x1 = v1) : (#[(i0, x0), (i1, x1)] : Array (Nat × Operand)).map (fun (i, x) => (i, jv E x)) = #[(i0, v0), (i1, v1)] := by simp [b, h1]
theorem BM {E : Nat → Value} {x0 x1 x2 : Operand} {v0 v1 v2 : Value} {i0 i1 i2 : Nat} (b : jv E x0 = v0) (h1 : jv E x1 = v1) (d : jv E x2 = v2) : (#[(i0, x0), (i1, x1), (i2, x2)] : Array (Nat × Operand)).map (fun (i, x) => (i, jv E x)) = #[(i0, v0), (i1, v1), (i2, v2)] := by simp [b, h1, d]
theorem Qh {E : Nat → Value} {x0 x1 x2 x3 x4 : Operand} {v0 v1 v2 v3 v4 : Value} {i0 i1 i2 i3 i4 : Nat} (b : jv E x0 = v0) (h1 : jv E x1 = v1) (d : jv E x2 = v2) (h : jv E x3 = v3) (j : jv E x4 = v4) : (#[(i0, x0), (i1, x1), (i2, x2), (i3, x3), (i4, x4)] : Array (Nat × Operand)).map (fun (i, x) => (i, jv E x)) = #[(i0, v0), (i1, v1), (i2, v2), (i3, v3), (i4, v4)] := by simp [b, h1, d, h, j]
theorem kj {P : Program} {t : TypeId} {f off : Nat} {fs : Array Field} {fd : Field} (j : P.underlying t = some (.struct fs)) (d : fs[f]? = some fd) {k : Nat} (i : ∀ w, (sizeOf fd.type).run P w = .ok k w) (hk : k ≠ 0) (h : fd.offset = off) : kQ P t f off := by
 intro b o w
 subst h
 simp [Instr.fieldAt, aS j, d, Instr.sureAddr, fieldPlace, dz, i w, hk]
theorem Ag.Kp {n : Nat} {a : Act} {E : Nat → Value} (h : Ag n a E) {ops : Array Oper} {j t : Nat} (d : (ops[j]?).bind (·.dst) = some t) (l : t < n) (m : E t = undef) : yielded ops a.tmps j = none := by
 have b := h.2.2 t
 have i : a.tmps[t]? = some (E t) := by
  rw [← b]
  simp [ey, h.1, l]
 simp [yielded, d, i, m, undef]
theorem QL {P : Program} {n : Nat} {Q : pk} {E : Nat → Value} {W : World} {ops : Array Oper} {rest : List Oper} {A : Value → Prop} {o : Oper} {dd : Nat} (hw : rf n ops E o) (d : o.dst = some dd) (i : dd < n) (j : ∃ p, A p ∧ ∀ W, lu P E o W p W) (h : ∀ p, A p → LW P n ops Q rest (nA E dd p) W) : LW P n ops Q (o :: rest) E W := by
 obtain ⟨p, h1, b⟩ := j
 exact Gz hw d i (b W) (h p h1)
end Go.Proofs.YtjjjihkifgdhgaaGreatDoor
namespace Go.Proofs.YtjjjihkifgdhgaaGreatDoor
open Go.RowKit
variable [M : Md]
variable {dd : Bool}
theorem ur {P : Program} {n : Nat} {x : Code} {Q : pk} {E : Nat → Value} {W : World} (h : CW P n x (pD (fun E W => Q .normal E W) Q) E W) : CW P n x Q E W :=
 Gl h (fun e E W h => by cases e <;> exact h)
section
variable {P : Program} {n : Nat} {Q : pk} {E : Nat → Value} {W : World} {d : Option Nat} {ty : TypeId} {pos : String} {af : Array Edge} {g : Option (Nat × Bool)}
 {F : Nat → Prop} {w : World} {μ : jN} {L : List (Nat × Obj)}
def N9 (k : IntKind) (op : BinOp) (a b : Int) : Option Value :=
 match op with
 | .quo => some (.int k (k.wrap (a.tdiv b)))
 | .rem => some (.int k (a.tmod b))
 | .and => some (.int k (k.wrap (BitVec.ofInt k.bits a &&& BitVec.ofInt k.bits b).toNat))
 | .or => some (.int k (k.wrap (BitVec.ofInt k.bits a ||| BitVec.ofInt k.bits b).toNat))
 | _ => none
theorem N5 {op : BinOp} {tx tv : TypeId} {x y : Operand} {k : IntKind} {a b : Int} {v : Value} (j : jv E x = .int k a) (l : jv E y = .int k b) (i : b ≠ 0) (h : N9 k op a b = some v) :
  lu P E ⟨d, .binOp op tx x y tv, ty, pos, af, g⟩ W v W := by
 show (do let r ← (do eqGuard op tx x y (jv E x) (jv E y); binOp op tx (jv E x) (jv E y)); pure (.value r) : Sem Next).run P W = _
 rw [j, l]
 cases op <;> simp [N9] at h <;> subst h <;> simp [eqGuard, binOp, Op.intDiv, Op.intBits, i]
theorem FX {tx tv : TypeId} {x y : Operand} {k k' : IntKind} {a b : Int} (h : jv E x = .int k a) (i : jv E y = .int k' b) (j : 0 ≤ b) :
  lu P E ⟨d, .binOp .shr tx x y tv, ty, pos, af, g⟩ W (.int k (a.fdiv (2 ^ min b.toNat k.bits))) W := by
 show (do let r ← (do eqGuard .shr tx x y (jv E x) (jv E y); binOp .shr tx (jv E x) (jv E y)); pure (.value r) : Sem Next).run P W = _
 rw [h, i]
 simp [eqGuard, binOp, Op.shift, show ¬ b < 0 by omega]
theorem rD {s t : TypeId} {x : Operand} {k k' : IntKind} {a : Int} {u : TypeDesc} (b : P.underlying s = some u) (h : P.underlying t = some (.int k)) (i : jv E x = .int k' a) :
  lu P E ⟨d, .convert s t x, ty, pos, af, g⟩ W (.int k (k.wrap a)) W := by
 show (do pure (.value (← convert s t (jv E x))) : Sem Next).run P W = _
 rw [i]
 simp [convert, aS b, aS h, Conv.intToInt]
theorem Gn {t e : TypeId} (dd : Nat) (b : P.underlying t = some (.slice e)) (A : Option Addr) (l c : Nat) (W : World) : (Op.equalIn (dd + 1) t (.slice A l c) (.slice none 0 0)).run P W = .ok A.isNone W := by
 cases A <;> simp [Op.equalIn, aS b]
theorem Ao {tx tv e : TypeId} {x y : Operand} {A : Option Addr} {l c : Nat} (h : P.underlying tx = some (.slice e)) (i : jv E x = .slice A l c) (j : jv E y = .slice none 0 0) :
  lu P E ⟨d, .binOp .eql tx x y tv, ty, pos, af, g⟩ W (.bool A.isNone) W := by
 show (do let r ← (do eqGuard .eql tx x y (jv E x) (jv E y); binOp .eql tx (jv E x) (jv E y)); pure (.value r) : Sem Next).run P W = _
 rw [i, j]
 have b := Gn 9999 h A l c W
 simp [eqGuard, binOp, Op.equal, show Op.maxDepth = 9999 + 1 from rfl, b]
def lV (s : ByteArray) : List Int := s.data.toList.map (fun b => (b.toNat : Int))
def BI (s : ByteArray) : Option (List Int) := if s.size ≤ maxLen then some (lV s) else none
theorem mB (s : ByteArray) : (lV s).length = s.size := by simp only [lV, cZ, dt]; rfl
theorem KZ {s : ByteArray} {cap i : Nat} {x : Int} (h : (lV s)[i]? = some x) : (bytesRow s cap)[i]? = some (.int .u8 x) := by
 have l : i < s.size := by have := (aW.1 h).1; rwa [mB] at this
 have d : i < s.data.size := l
 simp [lV] at h
 obtain ⟨b, j, rfl⟩ := h
 rw [bytesRow, Array.getElem?_append_left (by simpa using d)]
 simp [j]
theorem Hg {K : Value → World → Prop} {s t e : TypeId} {x : Operand} {str : ByteArray} {l : List Int} (n : ST dd F w W μ L) (z : P.underlying s = some .string) (u : P.underlying t = some (.slice e)) (he : P.underlying e = some (.int .u8)) (q : jv E x = .string str) (m : BI str = some l) (h : ∀ W' v μ', ST dd F w W' μ' L → jT μ μ' → Lo F w μ μ' → Sl (Pl (ku .u8)) 1 μ' v l → Fr w.heap.size v → K v W') : mD P E ⟨d, .convert s t x, ty, pos, af, g⟩ W K := by
 unfold BI at m
 split at m
 case isFalse => cases m
 rename_i hm
 cases m
 have p := run_bytes_of_string (P := P) W s t e str z u he
 have h1 := n.drew.alloc (.cells (bytesRow str (grownCap W str.size 0 e)) e ((bytesRow str (grownCap W str.size 0 e)).size, (bytesRow str (grownCap W str.size 0 e)).size + 1))
 refine .inl ⟨.slice (some ⟨W.heap.size, 0, none⟩) str.size (grownCap W str.size 0 e), _, ?_, h _ _ _ (ST.GF (A := []) h1) (ST.Gj (A := []) h1) (ST.Mv (A := []) h1) ?_ ?_⟩
 ·show (do pure (.value (← convert s t (jv E x))) : Sem Next).run P W = _
  rw [q]
  simp only [bZ, p, bM, dm]
 ·refine ⟨_, grownCap W str.size 0 e, by rw [mB], by rw [mB]; exact ja W str.size 0 e, fQ W str.size 0 e hm, fun _ => ⟨W.heap.size, 0, bytesRow str (grownCap W str.size 0 e), e, _, rfl, aZ rfl, fun i x q => ⟨_, rfl, rfl, fun j y r => ?_⟩⟩⟩
  cases j with
  | zero => simp [ku] at r; subst r; simpa using KZ q
  | succ j => simp [ku] at r
 ·intro b m
  simp [Value.ownBlock] at m
  subst m
  exact n.size
def Kg (l : List Int) : ByteArray := l.foldl (fun r n => r.push (UInt8.ofNat n.toNat)) ByteArray.empty
end
end Go.Proofs.YtjjjihkifgdhgaaGreatDoor
namespace Go.Proofs.YtjjjihkifgdhgaaGreatDoor
open Go.RowKit
variable {dd : Bool}
def keys (L : List (Nat × Obj)) : Nat → Prop := fun b => ∃ o, (b, o) ∈ L
structure Sk (dd : Bool) (F : Nat → Prop) (w W : World) : Prop where
 os : W.os = w.os
 tape : W.tape = w.tape
 output : W.output = w.output
 drawn : ry dd w.drawn W.drawn
 size : w.heap.size ≤ W.heap.size
 lF : ∀ b, b < w.heap.size → ¬ F b → W.heap[b]? = w.heap[b]?
def Dv (L : List (Nat × Obj)) (W : World) : Prop := ∀ b o, (b, o) ∈ L → W.heap[b]? = some o
structure si (dd : Bool) (L0 L1 : List (Nat × Obj)) (w w' : World) : Prop where
 ex : Sk dd (keys L0) w w'
 held : ∀ b o, (b, o) ∈ L1 → w'.heap[b]? = some o ∧ (w.heap.size ≤ b ∨ keys L0 b)
 nd : (L1.map (·.1)).Nodup
open Classical in
noncomputable def sR (w : World) (L : List (Nat × Obj)) : jN := fun b => if keys L b then none else w.heap[b]?
open Classical in
noncomputable def AE (μ : jN) (W W' : World) (L1 : List (Nat × Obj)) : jN := fun b => if b < W.heap.size then μ b else if keys L1 b then none else W'.heap[b]?
section
variable {F : Nat → Prop} {w W W' : World} {μ μ' : jN} {L L0 L1 : List (Nat × Obj)}
theorem ST.Qc (d : Dv L0 w) (i : (L0.map (·.1)).Nodup) : ST dd (keys L0) w w (sR w L0) L0 :=
 ⟨rfl, rfl, rfl, ry.of (aR _), aR _, fun _ _ _ => rfl, fun b o h => by
  unfold sR at h; split at h
  ·cases h
  ·exact h, fun b o h => ⟨d b o h, by unfold sR; rw [aZ ⟨o, h⟩], .inr ⟨o, h⟩⟩, i⟩
theorem DT {A B : List (Nat × Obj)} (h : ((A ++ B).map (·.1)).Nodup) {b : Nat} {o : Obj} (d : (b, o) ∈ B) : ¬ keys A b := by
 rintro ⟨j, i⟩
 rw [bY] at h
 exact (bQ.1 h).2.2 b (bH.2 ⟨_, i, rfl⟩) b (bH.2 ⟨_, d, rfl⟩) rfl
theorem ST.back (h : ST dd F w W μ (L0 ++ L)) (l : si dd L0 L1 W W') : ST dd F w W' (AE μ W W' L1) (L1 ++ L) := by
 have hk : ∀ b, keys L0 b → b < W.heap.size ∧ μ b = none ∧ (w.heap.size ≤ b ∨ F b) := fun b ⟨o, d⟩ => by
  obtain ⟨h1, i, p⟩ := h.box b o (cC _ d)
  exact ⟨nq h1, i, p⟩
 refine ⟨l.ex.os.trans h.os, l.ex.tape.trans h.tape, l.ex.output.trans h.output, ry.trans h.drawn l.ex.drawn, dy h.size l.ex.size, fun b j q => ?_, fun b o d => ?_, fun b o d => ?_, ?_⟩
 ·rw [l.ex.lF b (dT j h.size) (fun m => by
   rcases (hk b m).2.2 with h | h
   ·omega
   ·exact q h)]
  exact h.lF b j q
 ·unfold AE at d
  split at d
  ·rename_i j
   rw [l.ex.lF b j (fun m => by rw [(hk b m).2.1] at d; cases d)]
   exact h.mem b o d
  ·split at d
   ·cases d
   ·exact d
 ·rcases aN.1 d with d | d
  ·obtain ⟨h1, i⟩ := l.held b o d
   refine ⟨h1, ?_, ?_⟩
   ·unfold AE
    split
    ·rename_i j
     rcases i with i | i
     ·omega
     ·exact (hk b i).2.1
    ·rw [aZ ⟨o, d⟩]
   ·rcases i with i | i
    ·exact .inl (dy h.size i)
    ·exact (hk b i).2.2
  ·obtain ⟨h1, i, p⟩ := h.box b o (dO _ d)
   refine ⟨?_, ?_, p⟩
   ·rw [l.ex.lF b (nq h1) (DT h.nd d)]; exact h1
   ·unfold AE; rw [aZ (nq h1)]; exact i
 ·rw [bY]
  have s : (L.map (·.1)).Nodup := by have := h.nd; rw [bY] at this; exact (bQ.1 this).2.1
  refine bQ.2 ⟨l.nd, s, fun a ha c t e => ?_⟩
  subst e
  obtain ⟨⟨b, o⟩, d, rfl⟩ := bH.1 ha
  obtain ⟨⟨r, u⟩, n, e⟩ := bH.1 t
  simp at e; subst e
  have j := h.CQ (dO _ n)
  rcases (l.held r o d).2 with i | i
  ·omega
  ·exact DT h.nd n i
theorem ST.IR (h : ST dd F w W μ L) (W' : World) (L1 : List (Nat × Obj)) : Lo F w μ (AE μ W W' L1) := fun b d _ => aZ (dT d h.size)
theorem ST.GY (h : ST dd F w W μ L) (W' : World) (L1 : List (Nat × Obj)) : jT μ (AE μ W W' L1) := fun b o d => by
 unfold AE; rw [aZ (h.BV d)]; exact d
theorem ST.kX (h : ST dd F w W μ L) (i : ∀ p, p ∈ L0 → p ∈ L) : jT μ (sR W L0) := fun b o d => by
 unfold sR
 rw [aY]
 ·exact h.mem b o d
 ·rintro ⟨l, j⟩
  rw [(h.box b l (i _ j)).2.1] at d
  cases d
theorem si.Hy (h : Ex dd w W) (i : ∀ b o, (b, o) ∈ L1 → W.heap[b]? = some o ∧ w.heap.size ≤ b) (j : (L1.map (·.1)).Nodup) : si dd [] L1 w W :=
 ⟨⟨h.os, h.tape, h.output, h.drawn, h.size, fun b d _ => h.lF b d⟩, fun b o d => ⟨(i b o d).1, .inl (i b o d).2⟩, j⟩
end
def kR (dd : Bool) (P : Program) (f : FuncId) (args : List Value) (w : World) (L0 : List (Nat × Obj)) (K : Value → List (Nat × Obj) → World → Prop) : Prop :=
 Calls P f args.toArray w fun e b => ∃ v L1, e = .returned v ∧ si dd L0 L1 w b ∧ K v L1 b
def mi (dd : Bool) {α : Type} (P : Program) (f : FuncId) (args : List Value) (w : World) (e : TypeId) (enc : α → List Value) (k : Nat) (l : List α) : Prop :=
 kR dd P f args w [] fun v R _ => jL e enc k v l R
theorem si.lX {L0 L1 : List (Nat × Obj)} {w b : World} (h : si true L0 L1 w b) : si dd L0 L1 w b := ⟨⟨h.ex.os, h.ex.tape, h.ex.output, ry.of (h.ex.drawn rfl), h.ex.size, h.ex.lF⟩, h.held, h.nd⟩
theorem kf.lX {P : Program} {f : FuncId} {args : List Value} {w : World} {v : Value} (h : kf true P f args w v) : kf dd P f args w v := cW h fun _ _ h => ⟨h.1, h.2.lX⟩
theorem kR.lX {P : Program} {f : FuncId} {args : List Value} {w : World} {L0 : List (Nat × Obj)} {K : Value → List (Nat × Obj) → World → Prop} (h : kR true P f args w L0 K) : kR dd P f args w L0 K := cW h fun _ _ ⟨v, L1, h1, b, d⟩ => ⟨v, L1, h1, b.lX, d⟩
theorem mi.lX {α : Type} {P : Program} {f : FuncId} {args : List Value} {w : World} {e : TypeId} {enc : α → List Value} {k : Nat} {l : List α} (h : mi true P f args w e enc k l) : mi dd P f args w e enc k l := kR.lX h
section
variable {P : Program} {E : Nat → Value} {W : World} {d : Option Nat} {ty : TypeId} {pos : String} {af : Array Edge} {g : Option (Nat × Bool)}
 {F : Nat → Prop} {w : World} {μ : jN} {L : List (Nat × Obj)}
theorem Ni {K : Value → World → Prop} {K' : Value → List (Nat × Obj) → World → Prop} {f : FuncId} {fv : Operand} {ax : Array Operand} {ats : Array TypeId} {b : Array Value} {args : List Value} (L0 L2 : List (Nat × Obj)) (i : ST dd F w W μ L) (j : L.Perm (L0 ++ L2)) (p : jv E fv = .func (.func f) #[] b) (he : ∀ args w, (callFunc f args).run P w = .ok (.enter f args) w) (ha : ax.map (jv E) ++ b = args.toArray) (n : kR dd P f args W L0 K') (h : ∀ W' v μ' L1, ST dd F w W' μ' (L1 ++ L2) → jT μ μ' → Lo F w μ μ' → K' v L1 W' → K v W') : mD P E ⟨d, .call ⟨.value fv, ax, ats⟩, ty, pos, af, g⟩ W K :=
 DS p he ha (cW n (fun _ W' ⟨v, L1, h1, l, m⟩ => ⟨v, h1, h W' v _ L1 ((i.perm j).back l) ((i.perm j).GY W' L1) ((i.perm j).IR W' L1) m⟩))
theorem Ky {K : Value → World → Prop} {α : Type} {e : TypeId} {enc : α → List Value} {k : Nat} {l : List α} {f : FuncId} {fv : Operand} {ax : Array Operand} {ats : Array TypeId} {b : Array Value} {args : List Value} (X Y : List (Nat × Obj)) (i : ST dd F w W μ (X ++ Y)) (q : jv E fv = .func (.func f) #[] b) (he : ∀ args w, (callFunc f args).run P w = .ok (.enter f args) w) (ha : ax.map (jv E) ++ b = args.toArray) (p : mi dd P f args W e enc k l) (h : ∀ W' v μ' R, ST dd F w W' μ' (X ++ (R ++ Y)) → jT μ μ' → Lo F w μ μ' → jL e enc k v l R → K v W') : mD P E ⟨d, .call ⟨.value fv, ax, ats⟩, ty, pos, af, g⟩ W K :=
 Ni [] (X ++ Y) i (.refl _) q he ha p (fun W' v μ' L1 h1 j n m => h W' v μ' L1 (h1.perm (by rw [← aI, ← aI]; exact List.perm_append_comm.append_right Y)) j n m)
end
theorem ST.nF {w W : World} {μ : jN} {L R : List (Nat × Obj)} (h : ST dd lB w W μ L) (d : ∀ p, p ∈ R → p ∈ L) (j : (R.map (·.1)).Nodup) : si dd [] R w W :=
 si.Hy h.ex (fun b o i => ⟨(h.box b o (d _ i)).1, by
  rcases (h.box b o (d _ i)).2.2 with h | h
  ·exact h
  ·exact h.elim⟩) j
theorem qy {P : Program} {E : Nat → Value} {W : World} {d : Option Nat} {ty : TypeId} {pos : String} {af : Array Edge} {g : Option (Nat × Bool)} {α : Type} {e' : TypeId} {enc : α → List Value} {k : Nat} {v : Value} {l : List α} {R : List (Nat × Obj)} {x : Operand} {t e : TypeId} (b : P.underlying t = some (.slice e)) (i : jv E x = v) (h : jL e' enc k v l R) : lu P E ⟨d, .call ⟨.builtin .len, #[x], #[t]⟩, ty, pos, af, g⟩ W (.int .i64 l.length) W := by
 obtain ⟨A, c, rfl⟩ := h.form
 exact yf b i
section
variable {α : Type} {e : TypeId} {enc : α → List Value} {k : Nat} {v : Value} {l : List α} {R : List (Nat × Obj)}
theorem jL.nd (h : jL e enc k v l R) : (R.map (·.1)).Nodup := by
 rcases h with ⟨rfl, rfl, rfl⟩ | ⟨g, cap, b, rfl, rfl, _⟩ <;> simp
end
end Go.Proofs.YtjjjihkifgdhgaaGreatDoor
namespace Go.Proofs.YtjjjihkifgdhgaaGreatDoor
open Go.RowKit
variable {dd : Bool}
def yy (R : List (Nat × Obj)) (k : Nat) (p : Value) (i : Nat) : Prop := ∃ g o, R = [(g, o)] ∧ p = .pointer (some ⟨g, i * k, none⟩)
section
variable {P : Program} {E : Nat → Value} {W : World} {d : Option Nat} {ty : TypeId} {pos : String} {af : Array Edge} {g : Option (Nat × Bool)}
 {F : Nat → Prop} {w : World} {μ : jN} {L : List (Nat × Obj)} {α : Type} {e' : TypeId} {enc : α → List Value} {k : Nat} {v : Value} {l : List α} {R : List (Nat × Obj)}
theorem pK {t e : TypeId} {x j : Operand} {A : IntKind} {i : Int} {x0 : α} (y : P.underlying t = some (.slice e)) (he : ∀ w, (sizeOf e).run P w = .ok k w) (z : jv E x = v) (s : jv E j = .int A i) (h : jL e' enc k v l R) (q : 0 ≤ i) (u : l[i.toNat]? = some x0) :
  ∃ p, yy R k p i.toNat ∧ ∀ W, lu P E ⟨d, .indexAddr t x j, ty, pos, af, g⟩ W p W := by
 have b : i.toNat < l.length := (aW.1 u).1
 rcases h with ⟨rfl, rfl, rfl⟩ | ⟨n, cap, m, rfl, rfl, h1, G, I, J⟩
 ·simp at b
 refine ⟨.pointer (some ⟨n, i.toNat * k, none⟩), ⟨_, _, rfl, rfl⟩, fun W => ?_⟩
 show (do pure (.value (← Instr.indexAt t (jv E x) (jv E j))) : Sem Next).run P W = _
 rw [z, s]
 have r : 0 ≤ i ∧ i < (l.length : Int) := ⟨q, by omega⟩
 simp [Instr.indexAt, asIntOf, aS y, he W, r, dz]
theorem zB (h : jL e' enc k v l R) (hk : ∀ x, (enc x).length = k) {p : Value} {i : Nat} (hp : yy R k p i) {x0 : α} (q : l[i]? = some x0) :
  ∃ g b cap, R = [(g, .cells b e' (0, 0))] ∧ v = .slice (some ⟨g, 0, none⟩) l.length cap ∧ l.length ≤ cap ∧ cap ≤ maxLen ∧ b.size = cap * k ∧ b.toList.take (l.length * k) = (l.map enc).flatten ∧ p = .pointer (some ⟨g, i * k, none⟩) ∧ ∀ j y, (enc x0)[j]? = some y → b[i * k + j]? = some y := by
 have m : i < l.length := (aW.1 q).1
 rcases h with ⟨rfl, rfl, rfl⟩ | ⟨s, cap, b, rfl, rfl, h1, t, u, n⟩
 ·simp at m
 obtain ⟨g2, o, r, rfl⟩ := hp
 cases r
 refine ⟨s, b, cap, rfl, rfl, h1, t, u, n, rfl, fun j y w => ?_⟩
 have := wL hk l i x0 q j y w
 rw [← n] at this
 have d : i * k + j < l.length * k := by
  have := (aW.1 this).1
  simp at this; omega
 rw [dq d] at this
 simpa using this
theorem wK {A : List (Nat × Obj)} (hH : nc μ A W) (j : ∀ q, q ∈ R → q ∈ A) (h : jL e' enc k v l R) (hk : ∀ x, (enc x).length = k) {p : Value} {i : Nat} (hp : yy R k p i) {x0 : α} (r : l[i]? = some x0) {t : TypeId} (m : ∀ w, (isAgg t).run P w = .ok true w) (n : ∀ w, (sizeOf t).run P w = .ok k w) : (Instr.loadAt t p).run P W = .ok (.agg (enc x0).toArray) W := by
 obtain ⟨s, b, cap, rfl, rfl, _, _, _, _, rfl, d⟩ := zB h hk hp r
 exact Bj m (enc x0) (by rw [hk]; exact n) (hH.2 _ _ (j _ (bK.2 rfl))) d
theorem HO {A : List (Nat × Obj)} (hH : nc μ A W) (j : ∀ q, q ∈ R → q ∈ A) (h : jL e' enc k v l R) (hk : ∀ x, (enc x).length = k) {p : Value} {i : Nat} (hp : yy R k p i) {x0 : α} (n : l[i]? = some x0) {t : TypeId} {y : Value} (r : enc x0 = [y]) (m : ∀ w, (isAgg t).run P w = .ok false w) : (Instr.loadAt t p).run P W = .ok y W := by
 obtain ⟨s, b, cap, rfl, rfl, _, _, _, _, rfl, d⟩ := zB h hk hp n
 exact Bb m (hH.2 _ _ (j _ (bK.2 rfl))) (d 0 y (by rw [r]; rfl))
theorem Er (hk : ∀ x, (enc x).length = k) : ∀ (l : List α) (i : Nat) (y : α), i < l.length → ((l.set i y).map enc).flatten = (l.map enc).flatten.take (i * k) ++ enc y ++ (l.map enc).flatten.drop (i * k + k)
 | [], i, y, h => by simp at h
 | z :: l, 0, y, h => by
  simp [hk]
 | z :: l, i + 1, y, h => by
  have := Er hk l i y (by simpa using h)
  simp only [List.set_cons_succ, bF, bL, this]
  have h1 : (i + 1) * k = (enc z).length + i * k := by rw [hk, cM]; omega
  rw [h1, gM, dW, List.drop_length_add_append]
  simp
theorem KF {K : Value → World → Prop} (X : List (Nat × Obj)) {Y : List (Nat × Obj)} {t : TypeId} {x y : Operand} {p u : Value} {i : Nat} {x0 x1 : α} (m : ST dd F w W μ (X ++ (R ++ Y))) (h : jL e' enc k v l R) (hk : ∀ x, (enc x).length = k) (h1 : ∀ x, ∀ u ∈ enc x, u.oneCell' = true) (Z : jv E x = p) (hy : jv E y = u) (hu : u.cells = (enc x1).toArray) (hp : yy R k p i) (I : l[i]? = some x0) (T : ∀ w, (sizeOf t).run P w = .ok k w) (Q : ∀ W' R', ST dd F w W' μ (X ++ (R' ++ Y)) → jL e' enc k v (l.set i x1) R' → K undef W') : mD P E ⟨d, .store t x y, ty, pos, af, g⟩ W K := by
 have z : i < l.length := (aW.1 I).1
 obtain ⟨q, b, cap, rfl, rfl, G, M, s, O, rfl, h6⟩ := zB h hk hp I
 have hle : i * k + k ≤ cap * k := by
  have : (i + 1) * k ≤ cap * k := cN _ (by omega)
  rwa [cM, jb] at this
 have n : i * k + k ≤ l.length * k := by
  have : (i + 1) * k ≤ l.length * k := cN _ (by omega)
  rwa [cM, jb] at this
 have j : u.cells.size = k := by rw [hu]; simp [hk]
 have U := (m.box q (.cells b e' (0, 0)) (by simp)).1
 have hlen : l.length * k ≤ cap * k := cN _ G
 refine .inr (.inl ⟨W.setRow q (b.toList.take (i * k) ++ (enc x1) ++ b.toList.drop (i * k + k)).toArray, ?_, Q _ [(q, .cells (b.toList.take (i * k) ++ (enc x1) ++ b.toList.drop (i * k + k)).toArray e' (0, 0))] (m.store _) (.inr ⟨q, cap, _, by simp, rfl, by simpa using G, M, ?_, ?_⟩)⟩)
 ·show (do Instr.storeAt t (jv E x) (jv E y); pure .skip : Sem Next).run P W = _
  rw [Z, hy]
  have := Bm P (off := i * k) u (by rw [j]; exact T) (by rw [hu]; simpa using h1 x1) U (by rw [j, s]; exact hle)
  simp only [bZ, this, bM, dm, j]
  rw [hu]
 ·show ((b.toList.take (i * k) ++ (enc x1) ++ b.toList.drop (i * k + k)).toArray).size = _
  have r : b.toList.length = cap * k := by simpa using s
  rw [dw, aC, aC, cU, fz, hk, r, dB (by omega)]; omega
 ·rw [gG, Er hk l i x1 z, ← O]
  have J : (b.toList.take (l.length * k)).take (i * k) = b.toList.take (i * k) := by rw [fZ]; congr 1; omega
  have L : (b.toList.take (l.length * k)).drop (i * k + k) = (b.toList.drop (i * k + k)).take (l.length * k - (i * k + k)) := by rw [gQ]
  rw [J, L]
  show List.take (l.length * k) (b.toList.take (i * k) ++ enc x1 ++ b.toList.drop (i * k + k)) = _
  have r : b.toList.length = cap * k := by simpa using s
  have A : (b.toList.take (i * k) ++ enc x1).length = i * k + k := by rw [aC, cU, hk, r, dB (by omega)]
  rw [eQ, dA (by rw [A]; exact n), A]
theorem Dh (hk : ∀ x, (enc x).length = k) : ∀ (l : List α) (i : Nat), i ≤ l.length → ((l.take i).map enc).flatten = (l.map enc).flatten.take (i * k)
 | [], i, h => by simp
 | z :: l, 0, h => by simp
 | z :: l, i + 1, h => by
  have := Dh hk l i (by simpa using h)
  simp only [List.take_succ_cons, bF, bL, this]
  rw [show (i + 1) * k = (enc z).length + i * k by rw [hk, cM]; omega, gM]
theorem Av {t e : TypeId} {x ih : Operand} {J : IntKind} {i : Int} (p : P.underlying t = some (.slice e)) (he : ∀ w, (sizeOf e).run P w = .ok k w) (q : jv E x = v) (n : jv E ih = .int J i) (h : jL e' enc k v l R) (hk : ∀ x, (enc x).length = k) (u : 0 ≤ i) (I : i ≤ l.length) :
  ∃ r, jL e' enc k r (l.take i.toNat) R ∧ ∀ W, lu P E ⟨d, .slice t x none (some ih) none, ty, pos, af, g⟩ W r W := by
 have b : i.toNat ≤ l.length := by omega
 rcases h with ⟨rfl, rfl, rfl⟩ | ⟨m, cap, j, rfl, rfl, h1, y, z, A⟩
 ·have : i = 0 := by simp at I; omega
  subst this
  refine ⟨.slice none 0 0, .inl ⟨rfl, by simp, rfl⟩, fun W => ?_⟩
  show (do pure (.value (← Instr.sliceAt t (jv E x) none (some (jv E ih)) none)) : Sem Next).run P W = _
  rw [q, n]
  simp [Instr.sliceAt, Instr.slice, Instr.sliceBounds, Instr.sliceBound, asIntOf, aS p, he W]
 ·refine ⟨.slice (some ⟨m, 0, none⟩) (l.take i.toNat).length cap, .inr ⟨m, cap, j, rfl, rfl, by simp; omega, y, z, ?_⟩, fun W => ?_⟩
  ·have s : (l.take i.toNat).length = i.toNat := by rw [cU]; omega
   have hle : i.toNat * k ≤ l.length * k := cN _ b
   rw [s, Dh hk l i.toNat b, ← A, fZ, dB hle]
  ·show (do pure (.value (← Instr.sliceAt t (jv E x) none (some (jv E ih)) none)) : Sem Next).run P W = _
   rw [q, n]
   have G : 0 ≤ i ∧ i ≤ (cap : Int) := ⟨u, by omega⟩
   simp [Instr.sliceAt, Instr.slice, Instr.sliceBounds, Instr.sliceBound, asIntOf, aS p, he W, G, dz]
   omega
theorem Eh {u : oP α} {t e : TypeId} {x r : Operand} {ik : IntKind} {i : Int} (Z : P.underlying t = some (.slice e)) (he : ∀ w, (sizeOf e).run P w = .ok k w) (n : jv E x = v) (Q : jv E r = .int ik i) (h : Sl u k μ v l) (z : 0 ≤ i) (R : i ≤ l.length) :
  ∃ s, (Sl u k μ s (l.drop i.toNat) ∧ ∀ B, Fr B v → Fr B s) ∧ ∀ W, lu P E ⟨d, .slice t x (some r) none none, ty, pos, af, g⟩ W s W := by
 obtain ⟨A, c, rfl, h2, h3, G⟩ := h
 have U : i.toNat ≤ l.length := by omega
 refine ⟨.slice (if c = i.toNat then A else A.map (·.add (i.toNat * k))) (l.drop i.toNat).length (c - i.toNat), ⟨⟨_, _, rfl, by simp; omega, by omega, fun hp => ?_⟩, fun B O b m => ?_⟩, fun W => ?_⟩
 ·have Y : i.toNat < l.length := by simp at hp; omega
  obtain ⟨b, off, cs, T, fr, rfl, I, J⟩ := G (by omega)
  refine ⟨b, off + i.toNat * k, cs, T, fr, ?_, I, fun j x n => ?_⟩
  ·rw [aY (by omega)]; simp [dz]
  ·rw [dM] at n
   obtain ⟨ys, L, M, p⟩ := J _ x n
   refine ⟨ys, L, M, fun q y hy => ?_⟩
   have := p q y hy
   rw [cM] at this
   rw [show off + i.toNat * k + j * k + q = off + (i.toNat * k + j * k) + q by omega]
   exact this
 ·refine O b ?_
  cases A with
  | none => simp [Value.ownBlock] at m
  | some a =>
   split at m
   ·exact m
   ·obtain ⟨b', o', s'⟩ := a
    cases s' <;> simp [Value.ownBlock, Addr.add] at m ⊢ <;> split at m <;> exact m
 ·show (do pure (.value (← Instr.sliceAt t (jv E x) (some (jv E r)) none none)) : Sem Next).run P W = _
  rw [n, Q]
  have m : 0 ≤ i ∧ i ≤ (l.length : Int) := ⟨z, R⟩
  simp [Instr.sliceAt, Instr.slice, Instr.sliceBounds, Instr.sliceBound, asIntOf, aS Z, he W, m]
end
end Go.Proofs.YtjjjihkifgdhgaaGreatDoor
namespace Go.Proofs.YtjjjihkifgdhgaaGreatDoor
open Go.RowKit
variable {dd : Bool}
section
variable {α : Type} {e : TypeId} {enc : α → List Value} {k : Nat} {v : Value} {l : List α} {R : List (Nat × Obj)} {μ : jN}
theorem jL.one (h : jL e enc k v l R) : v.oneCell' = true := by obtain ⟨A, c, rfl⟩ := h.form; rfl
theorem Sl.one {b : oP α} (h : Sl b k μ v l) : v.oneCell' = true := by obtain ⟨A, c, rfl⟩ := h.form; rfl
theorem Sl.isNil {i : oP α} {n c : Nat} (h : Sl i k μ (.slice none n c) l) : l = [] := by
 obtain ⟨A, p, h1, q, r, j⟩ := h
 cases h1
 rcases ee l.length with d | d
 ·exact ev.1 d
 ·obtain ⟨b, off, cs, T, fr, m, _⟩ := j d
  cases m
theorem jL.isNil {n c : Nat} (h : jL e enc k (.slice none n c) l R) : l = [] := by
 rcases h with ⟨h1, rfl, rfl⟩ | ⟨g, cap, b, h1, _⟩
 ·rfl
 ·cases h1
theorem ST.Q0 {w W : World} {μ : jN} {L1 L2 : List (Nat × Obj)} (h : ST dd lB w W μ (L1 ++ L2)) : si dd [] L1 w W :=
 si.Hy h.ex (fun b o d => ⟨(h.box b o (cC _ d)).1, by
  rcases (h.box b o (cC _ d)).2.2 with h | h
  ·exact h
  ·exact h.elim⟩) (by have := h.nd; rw [bY] at this; exact (bQ.1 this).1)
theorem ST.Q6 {w W : World} {μ : jN} {L0 L1 L2 : List (Nat × Obj)} (h : ST dd (keys L0) w W μ (L1 ++ L2)) : si dd L0 L1 w W :=
 ⟨⟨h.os, h.tape, h.output, h.drawn, h.size, h.lF⟩, fun b o d => ⟨(h.box b o (cC _ d)).1, (h.box b o (cC _ d)).2.2⟩, by have := h.nd; rw [bY] at this; exact (bQ.1 this).1⟩
end
end Go.Proofs.YtjjjihkifgdhgaaGreatDoor
namespace Go.Proofs.YtjjjihkifgdhgaaGreatDoor
open Go.RowKit
variable {dd : Bool}
def kE {κ β : Type} (beq : κ → κ → Bool) (l : List (κ × β)) (k : κ) : Option β := (l.find? (fun p => beq k p.1)).map (·.2)
def ns {κ β : Type} (beq : κ → κ → Bool) (l : List (κ × β)) (k : κ) (v : β) : List (κ × β) :=
 match l.findIdx? (fun p => beq k p.1) with
 | some i => l.set i (k, v)
 | none => l ++ [(k, v)]
structure te {κ β : Type} (kenc : κ → Value) (vf : β → Value) (l : List (κ × β)) (es : Array MapEntry) (clock : Nat) : Prop where
 D1 : es.toList.map (fun e => (e.key, e.val)) = l.map (fun p => (kenc p.1, vf p.2))
 born : es.toList.Pairwise (fun a b => a.born < b.born)
 lt : ∀ e ∈ es.toList, e.born < clock
def li {κ β : Type} (kenc : κ → Value) (vf : β → Value) (v : Value) (l : List (κ × β)) (R : List (Nat × Obj)) : Prop :=
 ∃ m es clock, v = .map (some m) ∧ R = [(m, .map es clock)] ∧ te kenc vf l es clock
def uL {κ β : Type} (kenc : κ → Value) (vf : β → Value) (μ : jN) (v : Value) (l : List (κ × β)) : Prop :=
 (v = .map none ∧ l = []) ∨ ∃ m es clock, v = .map (some m) ∧ μ m = some (.map es clock) ∧ te kenc vf l es clock
theorem uL.mono {κ β : Type} {kenc : κ → Value} {vf : β → Value} {μ μ' : jN} {v : Value} {l : List (κ × β)} (h : uL kenc vf μ v l) (i : jT μ μ') : uL kenc vf μ' v l := by
 rcases h with h | ⟨m, es, clock, h1, b, d⟩
 ·exact .inl h
 ·exact .inr ⟨m, es, clock, h1, i _ _ b, d⟩
theorem li.at {κ β : Type} {kenc : κ → Value} {vf : β → Value} {μ : jN} {v : Value} {l : List (κ × β)} {R : List (Nat × Obj)} (h : li kenc vf v l R) (i : ∀ b o, (b, o) ∈ R → μ b = some o) : uL kenc vf μ v l := by
 obtain ⟨m, es, clock, rfl, rfl, d⟩ := h
 exact .inr ⟨m, es, clock, rfl, i _ _ (bK.2 rfl), d⟩
structure oC {κ : Type} (P : Program) (kt : TypeId) (kenc : κ → Value) (beq : κ → κ → Bool) : Prop where
 check : ∀ b k W, (Instr.checkKey b 10000 kt (kenc k)).run P W = .ok () W
 find : ∀ (k : κ) (l : List κ) (es : List MapEntry), es.map (·.key) = l.map kenc → ∀ W, (Instr.findKey kt (kenc k) es).run P W = .ok ((l.findIdx? (fun x => beq k x)).bind fun i => (es[i]?).map fun e => (i, e.val)) W
 eq : ∀ k x, beq k x = true → kenc x = kenc k
 bits : ∀ k, Instr.sameBits 10000 (kenc k) (kenc k) = true
section
variable {P : Program} {W : World} {κ : Type} {kt : TypeId} {kenc : κ → Value} {beq : κ → κ → Bool}
theorem Bu (b : ∀ x y W, (Op.equal kt (kenc x) (kenc y)).run P W = .ok (beq x y) W) (k : κ) : ∀ (l : List κ) (es : List MapEntry) (i : Nat), es.map (·.key) = l.map kenc →
  (Instr.findAsking kt (kenc k) es i).run P W = .ok ((l.findIdx? (fun x => beq k x)).bind fun j => (es[j]?).map fun e => (i + j, e.val)) W
 | [], [], i, h => by simp [Instr.findAsking]
 | [], _ :: _, i, h => by simp at h
 | _ :: _, [], i, h => by simp at h
 | x :: l, e :: es, i, h => by
  simp only [bF, aT] at h
  obtain ⟨h1, d⟩ := h
  simp only [Instr.findAsking, bZ, h1, b, bM, eG]
  cases m : beq k x with
  | true => simp
  | false =>
   simp only [aB, aG]
   rw [Bu b k l es (i + 1) d]
   cases l.findIdx? (fun x => beq k x) with
   | none => rfl
   | some j => simp [dW, Nat.add_comm 1 j]
theorem Ja {kind : TypeDesc} (hk : ∀ a b, Instr.sameNow kind (.agg a) b = none) (a : Array Value) : ∀ (es : List MapEntry) (i : Nat), Instr.findNow kind (.agg a) es i = if es = [] then some none else none
 | [], i => by simp [Instr.findNow]
 | e :: es, i => by simp [Instr.findNow, hk]
theorem oC.struct {enc : κ → List Value} {fs : Array Field} (q : P.underlying kt = some (.struct fs)) (p : ∀ d x y W, (Op.equalIn (d + 10) kt (.agg (enc x).toArray) (.agg (enc y).toArray)).run P W = .ok (beq x y) W) (n : ∀ b k W, (Instr.checkKey b 10000 kt (.agg (enc k).toArray)).run P W = .ok () W) (he : ∀ k x, beq k x = true → x = k) (m : ∀ k, Instr.sameBits 10000 (.agg (enc k).toArray) (.agg (enc k).toArray) = true) : oC P kt (fun x => .agg (enc x).toArray) beq where
 check := n
 find := fun k l es h W => by
  have i : ∀ x y W, (Op.equal kt (.agg (enc x).toArray) (.agg (enc y).toArray)).run P W = .ok (beq x y) W := fun x y W => p 9990 x y W
  simp only [Instr.findKey, bZ, aS q, bM]
  rw [Ja (fun a b => by cases b <;> rfl)]
  by_cases j : es = []
  ·subst j
   have : l = [] := by simpa using h.symm
   subst this
   simp
  ·rw [aY j]
   dsimp only
   rw [show Instr.findAsking kt (.agg (enc k).toArray) es = Instr.findAsking kt (.agg (enc k).toArray) es 0 from rfl, Bu i k l es 0 h]
   simp
 eq := fun k x h => by rw [he k x h]
 bits := m
theorem lH {a b : ByteArray} : kv a b = true ↔ a = b := by
 unfold kv
 rw [eP, eP]
 constructor
 ·intro h
  have h1 : a.data.toList = b.data.toList := by simpa using h
  exact fI (Array.toList_inj.1 h1)
 ·rintro rfl
  simp
theorem CS (a b : ByteArray) : (a == b) = kv a b := by
 rw [bI, lH]
 constructor
 ·intro h
  have h1 : (a.data == b.data) = true := h
  exact fI (by simpa using h1)
 ·rintro rfl
  show (a.data == a.data) = true
  simp
theorem By (k : ByteArray) : ∀ (l : List ByteArray) (es : List MapEntry) (i : Nat), es.map (·.key) = l.map Value.string →
  Instr.findNow .string (.string k) es i = some ((l.findIdx? (fun x => kv k x)).bind fun j => (es[j]?).map fun e => (i + j, e.val))
 | [], [], i, h => by simp [Instr.findNow]
 | [], _ :: _, i, h => by simp at h
 | _ :: _, [], i, h => by simp at h
 | x :: l, e :: es, i, h => by
  simp only [bF, aT] at h
  obtain ⟨h1, b⟩ := h
  simp only [Instr.findNow, h1, Instr.sameNow, CS, eG]
  cases d : kv k x with
  | true => simp
  | false =>
   simp only [aB, aG]
   rw [By k l es (i + 1) b]
   cases l.findIdx? (fun x => kv k x) with
   | none => rfl
   | some j => simp [dW, Nat.add_comm 1 j]
theorem xt (d : P.underlying kt = some .string) (n : Nat) (b : Bool) (k : ByteArray) (W : World) : (Instr.checkKey b (n + 1) kt (.string k)).run P W = .ok () W := by
 simp [Instr.checkKey, aS d]
theorem oC.string (d : P.underlying kt = some .string) : oC P kt Value.string kv where
 check := fun b k W => xt d 9999 b k W
 find := fun k l es h W => by
  simp only [Instr.findKey, bZ, aS d, bM]
  have := By k l es 0 h
  rw [this]
  simp
 eq := fun k x h => by rw [lH.1 h]
 bits := fun k => by simp only [Instr.sameBits]; rw [CS]; exact lH.2 rfl
variable {β : Type} {vf : β → Value} {E : Nat → Value} {d : Option Nat} {ty : TypeId} {pos : String} {af : Array Edge} {g : Option (Nat × Bool)} {F : Nat → Prop} {w : World} {μ : jN} {L : List (Nat × Obj)}
theorem te.keys {l : List (κ × β)} {es : Array MapEntry} {clock : Nat} (h : te kenc vf l es clock) : es.toList.map (·.key) = (l.map (·.1)).map kenc := by
 have := bA (List.map Prod.fst) h.D1
 simpa [fk] using this
theorem te.length {l : List (κ × β)} {es : Array MapEntry} {clock : Nat} (h : te kenc vf l es clock) : es.size = l.length := by
 have := bA List.length h.D1
 simpa using this
theorem te.get {l : List (κ × β)} {es : Array MapEntry} {clock : Nat} (h : te kenc vf l es clock) (k : κ) :
  (((l.map (·.1)).findIdx? (fun x => beq k x)).bind fun i => (es.toList[i]?).map fun e => (i, e.val)) = (l.findIdx? (fun p => beq k p.1)).bind fun i => (l[i]?).map fun p => (i, vf p.2) := by
 rw [ga]
 show ((l.findIdx? (fun p => beq k p.1)).bind _) = _
 congr 1
 funext i
 have := bA (fun q => q[i]?) h.D1
 simp only [ew] at this
 cases h1 : es.toList[i]? with
 | none => rw [h1] at this; cases b : l[i]? with
  | none => rfl
  | some p => rw [b] at this; cases this
 | some e => rw [h1] at this; cases b : l[i]? with
  | none => rw [b] at this; cases this
  | some p => rw [b] at this; simp at this; simp [this.2]
theorem wF (l : List (κ × β)) (k : κ) : kE beq l k = (l.findIdx? (fun p => beq k p.1)).bind fun i => (l[i]?).map (·.2) := by
 induction l with
 | nil => rfl
 | cons p l ih =>
  simp only [kE, fN, eG] at ih ⊢
  cases beq k p.1 with
  | true => rfl
  | false =>
   simp only [aB, aG]
   rw [ih]
   cases l.findIdx? (fun p => beq k p.1) <;> simp
theorem HV {t e : TypeId} {m x : Operand} {u z : Value} {l : List (κ × β)} {k : κ} (K : oC P kt kenc beq) (r : P.underlying t = some (.map kt e)) (h : ∀ w, (zeroValue e).run P w = .ok z w) (hm : jv E m = u) (G : jv E x = kenc k) (y : uL kenc vf (hp W) u l) :
  lu P E ⟨d, .lookup t m x false, ty, pos, af, g⟩ W (((kE beq l k).map vf).getD z) W := by
 show (do pure (.value (← Instr.lookup t (jv E m) (jv E x) false)) : Sem Next).run P W = _
 rw [hm, G]
 rcases y with ⟨rfl, rfl⟩ | ⟨s, es, clock, rfl, A, j⟩
 ·have := K.find k [] [] rfl W
  simp [Instr.lookup, aS r, K.check, this, h W, kE]
 ·have b : W.heap[s]? = some (.map es clock) := A
  have v : (getObj s : Sem Obj).run P W = .ok (.map es clock) W := by simp [getObj, Sem.run, b]
  have n := K.find k _ _ j.keys W
  rw [j.get k] at n
  simp only [Instr.lookup, bZ, aS r, bM, v, dm, K.check, n, wF]
  cases I : l.findIdx? (fun p => beq k p.1) with
  | none => simp [h W]
  | some i =>
   cases q : l[i]? with
   | none => simp [q, h W]
   | some p => simp [q]
theorem qI {l : List (κ × β)} {k : κ} {i : Nat} (h : l.findIdx? (fun p => beq k p.1) = some i) : ∃ p, l[i]? = some p ∧ beq k p.1 = true := by
 rw [dV] at h
 obtain ⟨h1, b, _⟩ := h
 exact ⟨l[i], dC h1, b⟩
theorem te.put {l : List (κ × β)} {es : Array MapEntry} {clock : Nat} (h : te kenc vf l es clock) (k : κ) (v : β) :
  match l.findIdx? (fun p => beq k p.1) with
  | some i => te kenc vf (l.set i (k, v)) (es.modify i fun e => { e with key := kenc k, val := vf v }) clock
  | none => te kenc vf (l ++ [(k, v)]) (es.push { key := kenc k, val := vf v, born := clock }) (clock + 1) := by
 cases t : l.findIdx? (fun p => beq k p.1) with
 | none =>
  refine ⟨?_, ?_, ?_⟩
  ·simp [h.D1]
  ·simp only [Array.toList_push, cP]
   exact ⟨h.born, by simp, fun a ha b s => by simp at s; subst s; exact h.lt a ha⟩
  ·intro e he
   simp at he
   rcases he with he | rfl
   ·exact Nat.lt_succ_of_lt (h.lt e (by simpa using he))
   ·exact bN _
 | some i =>
  obtain ⟨p, hp, _⟩ := qI t
  have x : i < l.length := (aW.1 hp).1
  have d : (es.modify i fun e => { e with key := kenc k, val := vf v }).toList.map (·.born) = es.toList.map (·.born) := by
   apply eu
   intro j
   simp only [ew, dG, dF]
   split
   ·cases es[j]? <;> simp
   ·rfl
  refine ⟨?_, ?_, ?_⟩
  ·apply eu
   intro j
   have n := bA (fun q => q[j]?) h.D1
   simp only [ew, dG] at n
   simp only [ew, dG, dF, eK]
   by_cases m : i = j
   ·subst m
    simp only [aJ]
    rw [aZ x]
    cases u : es[i]? with
    | none => rw [u, hp] at n; cases n
    | some e => rfl
   ·rw [aY m, aY m]; exact n
  ·have := h.born
   rw [← fl (f := fun e : MapEntry => e.born) (R := (· < ·))] at this ⊢
   rw [d]; exact this
  ·intro e he
   have : e.born ∈ es.toList.map (·.born) := by rw [← d]; exact bH.2 ⟨e, he, rfl⟩
   obtain ⟨e', r, w⟩ := bH.1 this
   rw [← w]; exact h.lt e' r
theorem xe {W : World} {r : Nat} {es : Array MapEntry} {c : Nat} (d : W.heap[r]? = some (.map es c)) (b : Obj) : (setObj r b).run P W = .ok () (ChangeMaps.setBlock W r b) := by
 simp [setObj, Sem.run, d, ChangeMaps.setBlock]
theorem ST.setBlock {A B : List (Nat × Obj)} {b : Nat} {o : Obj} (h : ST dd F w W μ (A ++ (b, o) :: B)) (i : Obj) : ST dd F w (ChangeMaps.setBlock W b i) μ (A ++ (b, i) :: B) := by
 have j := (h.box b o (by simp)).1
 have d := nq j
 refine h.put ⟨rfl, rfl, rfl, aR _, by simp [ChangeMaps.setBlock]⟩ (fun k hk => ?_) ?_
 ·simp only [ChangeMaps.setBlock]
  rw [Array.getElem?_setIfInBounds_ne (fun e => hk e.symm)]
 ·simp only [ChangeMaps.setBlock]
  rw [Array.getElem?_setIfInBounds_self_of_lt d]
theorem A6 {L : Value → World → Prop} (X : List (Nat × Obj)) {Y R : List (Nat × Obj)} {t e : TypeId} {m x y : Operand} {J : Value} {l : List (κ × β)} {k : κ} {v : β} (K : oC P kt kenc beq) (Q : P.underlying t = some (.map kt e)) (r : ST dd F w W μ (X ++ (R ++ Y))) (h : li kenc vf J l R) (hm : jv E m = J) (U : jv E x = kenc k) (Z : jv E y = vf v) (O : ∀ W' R', ST dd F w W' μ (X ++ (R' ++ Y)) → li kenc vf J (ns beq l k v) R' → L undef W') : mD P E ⟨d, .mapUpdate t m x y, ty, pos, af, g⟩ W L := by
 obtain ⟨j, es, clock, rfl, rfl, A⟩ := h
 have G : W.heap[j]? = some (.map es clock) := (r.box j (.map es clock) (by simp)).1
 have M : (getObj j : Sem Obj).run P W = .ok (.map es clock) W := by simp [getObj, Sem.run, G]
 have s := K.find k _ _ A.keys W
 rw [A.get k] at s
 have b := A.put (beq := beq) k v
 have n : ∀ W', (Instr.mapUpdate t (.map (some j)) (kenc k) (vf v)).run P W = .ok () W' → (execOp (jv E) ⟨d, .mapUpdate t m x y, ty, pos, af, g⟩).run P W = .ok .skip W' := by
  intro W' T
  show (do Instr.mapUpdate t (jv E m) (jv E x) (jv E y); pure .skip : Sem Next).run P W = _
  rw [hm, U, Z]
  simp [T]
 cases u : l.findIdx? (fun p => beq k p.1) with
 | none =>
  rw [u] at s b
  refine .inr (.inl ⟨ChangeMaps.setBlock W j (.map (es.push { key := kenc k, val := vf v, born := clock }) (clock + 1)), n _ ?_, O _ [(j, _)] (r.setBlock _) ⟨j, _, _, rfl, rfl, ?_⟩⟩)
  ·simp [Instr.mapUpdate, aS Q, M, K.check, s, xe G]
  ·rw [ns, u]; exact b
 | some i =>
  obtain ⟨p, hp, I⟩ := qI u
  rw [u] at s b
  simp only [aA, hp, dZ] at s
  have z : ((es[i]?).map (·.key)).getD (kenc k) = kenc k := by
   have := bA (fun q => q[i]?) A.keys
   simp only [ew, hp, dZ, dG] at this
   rw [this]
   simp [K.eq k p.1 I]
  refine .inr (.inl ⟨ChangeMaps.setBlock W j (.map (es.modify i fun e => { e with key := kenc k, val := vf v }) clock), n _ ?_, O _ [(j, _)] (r.setBlock _) ⟨j, _, _, rfl, rfl, ?_⟩⟩)
  ·simp only [Instr.mapUpdate, bZ, aS Q, M, K.check, s, bM, z, Instr.keyThatStays, K.bits, aJ, dm]
   exact xe G _
  ·rw [ns, u]; exact b
theorem GX {h : Value → World → Prop} {t : TypeId} (kenc : κ → Value) (vf : β → Value) (b : ST dd F w W μ L) (i : ∀ W' v R, ST dd F w W' μ (R ++ L) → li kenc vf v [] R → h v W') : mD P E ⟨d, .makeMap t none, ty, pos, af, g⟩ W h :=
 .inl ⟨.map (some W.heap.size), W.alloc (.map #[] 0), by
   show (do pure (.value (← Instr.makeMap t none)) : Sem Next).run P W = _
   simp [Instr.makeMap, newObj, Sem.run], i _ _ [(W.heap.size, .map #[] 0)] (b.alloc _) ⟨_, _, _, rfl, rfl, ⟨rfl, by simp, by simp⟩⟩⟩
end
end Go.Proofs.YtjjjihkifgdhgaaGreatDoor
namespace Go.Proofs.YtjjjihkifgdhgaaGreatDoor
open Go.RowKit
variable {dd : Bool}
open Classical in
noncomputable def Dw {α β : Type} (l : List α) (f : List α → Option β) : Option β :=
 if h : ∃ r, ∀ o, o.Perm l → f o = some r then some h.choose else none
theorem E1 {α β : Type} {l : List α} {f : List α → Option β} {r : β} (h : ∀ o, o.Perm l → f o = some r) : Dw l f = some r := by
 have b : ∃ r, ∀ o, o.Perm l → f o = some r := ⟨r, h⟩
 unfold Dw
 rw [dif_pos b]
 have h1 := b.choose_spec l (.refl l)
 rw [h l (.refl l)] at h1
 exact h1.symm
end Go.Proofs.YtjjjihkifgdhgaaGreatDoor
namespace Go.Proofs.YtjjjihkifgdhgaaGreatDoor
open Go.RowKit
variable {dd : Bool}
def IC {α β : Type} (P : Program) (fv : Value) (μ : jN) (d : α → List Value) (h : β → Value) (pm : α → Option β) : Prop :=
 ∃ f b, fv = .func (.func f) #[] b ∧ (∀ args w, (callFunc f args).run P w = .ok (.enter f args) w) ∧ ∀ W x r, jT μ (hp W) → pm x = some r → kf true P f (d x ++ b.toList) W (h r)
def xO {α β : Type} (P : Program) (fv : Value) (μ : jN) (d : α → List Value) (h : β → Value) (pm : α → Option β) : Prop :=
 ∃ f first b, fv = .func (.func f) first b ∧ (∀ args w, (callFunc f args).run P w = .ok (.enter f args) w) ∧ ∀ W x r, jT μ (hp W) → pm x = some r → kf false P f (first.toList ++ (d x ++ b.toList)) W (h r)
theorem xO.form {α β : Type} {P : Program} {fv : Value} {μ : jN} {d : α → List Value} {i : β → Value} {pm : α → Option β} (h : xO P fv μ d i pm) : ∃ f a b, fv = .func f a b := let ⟨f, a, b, h, _⟩ := h; ⟨_, a, b, h⟩
section
variable {P : Program} {W : World} {E : Nat → Value} {d : Option Nat} {ty : TypeId} {pos : String} {af : Array Edge} {g : Option (Nat × Bool)} {F : Nat → Prop} {w : World} {μ μ0 : jN} {L : List (Nat × Obj)}
theorem xO.mono {α β : Type} {fv : Value} {d : α → List Value} {i : β → Value} {pm : α → Option β} (h : xO P fv μ d i pm) (m : jT μ μ0) : xO P fv μ0 d i pm := by
 obtain ⟨f, first, b, h1, j, l⟩ := h
 exact ⟨f, first, b, h1, j, fun W x r h => l W x r (m.trans h)⟩
theorem NI {α β : Type} {K : Value → World → Prop} {fv : Value} {j : α → List Value} {n : β → Value} {pm : α → Option β} {l : Operand} {ax : Array Operand} {ats : Array TypeId} (x : α) {r : β} (i : ST false F w W μ L) (u : xO P fv μ0 j n pm) (y : jT μ0 μ) (v : jv E l = fv) (ha : ax.map (jv E) ++ (#[] : Array Value) = (j x).toArray) (hm : pm x = some r) (h : ∀ W', ST false F w W' μ L → K (n r) W') : mD P E ⟨d, .call ⟨.value l, ax, ats⟩, ty, pos, af, g⟩ W K := by
 obtain ⟨f, first, b, rfl, p, q⟩ := u
 have m : ax.map (jv E) = (j x).toArray := by simpa using ha
 refine .inr (.inr ⟨f, (first.toList ++ (j x ++ b.toList)).toArray, ?_, cW (q W x r (y.trans i.jx) hm) (fun _ _ ⟨s, t⟩ => ⟨_, s, h _ (i.Fg t)⟩)⟩)
 show (do let d ← resolve (jv E) ⟨.value l, ax, ats⟩ ty; invoke d.target d.args : Sem Next).run P W = _
 simp only [resolve, v, Deferred.ofValue, bZ, dm, bM, invoke, m, p]
 congr 2
 simp
end
end Go.Proofs.YtjjjihkifgdhgaaGreatDoor
namespace Go.Proofs.YtjjjihkifgdhgaaGreatDoor
open Go.RowKit
variable {dd : Bool}
def Bf (A : List (Nat × Obj)) : jN := fun b => (A.find? (fun p => p.1 == b)).map (·.2)
theorem lI {A : List (Nat × Obj)} {W : World} (h : ∀ b o, (b, o) ∈ A → W.heap[b]? = some o) : ∀ b o, Bf A b = some o → W.heap[b]? = some o := fun b o d => by
 unfold Bf at d
 cases i : A.find? (fun p => p.1 == b) with
 | none => rw [i] at d; cases d
 | some p =>
  rw [i] at d
  cases d
  have h1 := List.mem_of_find?_eq_some i
  have j := List.find?_some i
  simp at j
  subst j
  exact h _ _ h1
theorem At.of {M : jN} {b : Nat} {cs : Array Value} {T : TypeId} {fr : Nat × Nat} (h : M b = some (.cells cs T fr)) (ys : List Value) (i : cs.toList = ys) : At M (.pointer (some ⟨b, 0, none⟩)) ys :=
 ⟨b, 0, cs, T, fr, rfl, h, fun j y d => by subst i; simpa using d⟩
section
variable {F : Nat → Prop} {w W W' : World} {μ μ' : jN} {L L0 L1 L2 : List (Nat × Obj)}
theorem ST.J3 (h : ST dd F w W μ L) (d : L.Perm (L0 ++ L2)) : ∀ b o, (b, o) ∈ L2 → sR W L0 b = some o := fun b o i => by
 have h1 := (h.perm d).at_ (dO _ i)
 unfold sR
 rw [aY (DT (h.perm d).nd i)]
 exact h1
theorem ST.held (h : ST dd F w W μ L) (d : L.Perm (L0 ++ L2)) : Dv L0 W := fun b o i => ((h.perm d).box b o (cC _ i)).1
theorem ST.PI (h : ST dd F w W μ L) (b : L.Perm (L0 ++ L2)) : (L0.map (·.1)).Nodup := by
 have := (h.perm b).nd
 rw [bY] at this
 exact (bQ.1 this).1
theorem ST.Qu (h : ST dd F w W μ L) (b : L.Perm (L0 ++ L2)) : jT μ (sR W L0) := (h.perm b).kX (fun _ hp => cC _ hp)
end
section
variable {P : Program} {E : Nat → Value} {W : World} {d : Option Nat} {ty : TypeId} {pos : String} {af : Array Edge} {g : Option (Nat × Bool)}
 {F : Nat → Prop} {w : World} {μ : jN} {L : List (Nat × Obj)}
theorem OO {K : Value → World → Prop} {K' : Value → List (Nat × Obj) → World → Prop} {f : FuncId} {fv : Operand} {ax : Array Operand} {ats : Array TypeId} {j : Array Value} {args : List Value} (L0 L2 : List (Nat × Obj)) (i : ST dd F w W μ L) (l : L.Perm (L0 ++ L2)) (r : jv E fv = .func (.func f) #[] j) (he : ∀ args w, (callFunc f args).run P w = .ok (.enter f args) w) (ha : ax.map (jv E) ++ (#[] : Array Value) = args.toArray) (q : Dv L0 W → (L0.map (·.1)).Nodup → jT μ (sR W L0) → (∀ b o, (b, o) ∈ L2 → sR W L0 b = some o) → kR dd P f (args ++ j.toList) W L0 K') (h : ∀ W' v μ' L1, ST dd F w W' μ' (L1 ++ L2) → jT μ μ' → Lo F w μ μ' → (∀ b, W.heap.size ≤ b → ∀ o, sR W' L1 b = some o → μ' b = some o) → K' v L1 W' → K v W') : mD P E ⟨d, .call ⟨.value fv, ax, ats⟩, ty, pos, af, g⟩ W K := by
 have m : ax.map (jv E) = args.toArray := by simpa using ha
 refine DS (args := (args ++ j.toList).toArray) r he (by rw [m]; simp) (cW (q (i.held l) (i.PI l) (i.Qu l) (i.J3 l)) (fun _ W' ⟨v, L1, h1, n, p⟩ => ⟨v, h1, h W' v _ L1 ((i.perm l).back n) ((i.perm l).GY W' L1) ((i.perm l).IR W' L1) ?_ p⟩))
 intro b t o s
 unfold AE
 rw [aY (by omega)]
 exact s
theorem Sl.lift {α : Type} {enc : α → List Value} {k : Nat} {M μ' : jN} {B : Nat} {v : Value} {l : List α} (h : Sl (Pl enc) k M v l) (r : Fr B v) (q : ∀ b, B ≤ b → ∀ o, M b = some o → μ' b = some o) : Sl (Pl enc) k μ' v l := by
 obtain ⟨A, c, h1, i, j, m⟩ := h
 refine ⟨A, c, h1, i, j, fun s => ?_⟩
 obtain ⟨b, off, cs, T, fr, d, n, p⟩ := m s
 exact ⟨b, off, cs, T, fr, d, q b (r b (by rw [h1, d]; rfl)) _ n, p⟩
theorem Et {t : TypeId} (dd : Nat) {s u : Array TypeId} {b : Bool} (d : P.underlying t = some (.func s u b)) (f : Fn) (a c : Array Value) (W : World) : (Op.equalIn (dd + 1) t (.func f a c) .nilFunc).run P W = .ok false W := by
 simp [Op.equalIn, aS d]
end
def yt {κ β : Type} (beq : κ → κ → Bool) (l : List (κ × β)) (k : κ) (z : β) : β := (kE beq l k).getD z
section
variable {P : Program} {W : World} {κ β : Type} {kt : TypeId} {kenc : κ → Value} {beq : κ → κ → Bool} {vf : β → Value} {E : Nat → Value} {d : Option Nat} {ty : TypeId} {pos : String} {af : Array Edge} {g : Option (Nat × Bool)} {F : Nat → Prop} {w : World} {μ : jN} {L R : List (Nat × Obj)} {v : Value} {left : List (κ × β)}
theorem yA {t e : TypeId} {m x : Operand} {b : Value} {l : List (κ × β)} {k : κ} {z : β} (K : oC P kt kenc beq) (j : P.underlying t = some (.map kt e)) (p : ∀ w, (zeroValue e).run P w = .ok (vf z) w) (hm : jv E m = b) (n : jv E x = kenc k) (i : uL kenc vf (hp W) b l) :
  lu P E ⟨d, .lookup t m x false, ty, pos, af, g⟩ W (vf (yt beq l k z)) W := by
 have := HV (d := d) (ty := ty) (pos := pos) (af := af) (g := g) K j p hm n i
 rw [yt]
 cases h : kE beq l k with
 | none => rw [h] at this; exact this
 | some y => rw [h] at this; exact this
theorem li.one {b : Value} {l : List (κ × β)} (h : li kenc vf b l R) : b.oneCell' = true := by obtain ⟨m, es, clock, rfl, _⟩ := h; rfl
theorem li.form {b : Value} {l : List (κ × β)} (h : li kenc vf b l R) : ∃ m, b = .map (some m) := by obtain ⟨m, es, clock, rfl, _⟩ := h; exact ⟨m, rfl⟩
theorem li.nd {b : Value} {l : List (κ × β)} (h : li kenc vf b l R) : (R.map (·.1)).Nodup := by obtain ⟨m, es, clock, rfl, rfl, _⟩ := h; simp
end
def nO {α : Type} (l : List α) (i : Nat) (z : α) : List α := l.take i ++ List.replicate (l.length - i) z
theorem uj {α : Type} (l : List α) (i : Nat) (z : α) (h : i ≤ l.length) : (nO l i z).length = l.length := by simp [nO]; omega
theorem En {α : Type} (l : List α) (i : Nat) (z : α) (h : i ≤ l.length) : (nO l i z).take i = l.take i := by
 simp only [nO]
 rw [eQ, dA (by simp; omega)]
 simp; omega
end Go.Proofs.YtjjjihkifgdhgaaGreatDoor
namespace Go.Proofs.YtjjjihkifgdhgaaGreatDoor
open Go.RowKit
theorem Hh {P : Program} {cs : Array Value} {b : Bool} {n : Nat} {W : World} : ∀ (l : List Field),
  (∀ f ∈ l, f.name ≠ "_" → ∃ v, (part f.type cs f.offset).run P W = .ok v W ∧ (Instr.checkKey b n f.type v).run P W = .ok () W) →
  ((forIn l PUnit.unit fun f (_ : PUnit) => do
   if f.name ≠ "_" then Instr.checkKey b n f.type (← part f.type cs f.offset)
   pure (ForInStep.yield PUnit.unit)) : Sem PUnit).run P W = .ok PUnit.unit W
 | [], _ => by simp
 | f :: l, h => by
  have ih := Hh l (fun f j => h f (eL _ j))
  simp only [List.forIn_cons, bZ]
  by_cases d : f.name ≠ "_"
  ·obtain ⟨v, h1, i⟩ := h f (by simp) d
   simp only [aZ d, bZ, h1, bM, i, dm]
   exact ih
  ·simp only [aY d, bZ, dm, bM]
   exact ih
theorem FB {P : Program} {kt : TypeId} {fs : Array Field} {l : List Field} {cs : Array Value} {b : Bool} {n : Nat} {W : World} (i : P.underlying kt = some (.struct fs)) (d : fs.toList = l) (h : ∀ f ∈ l, f.name ≠ "_" → ∃ v, (part f.type cs f.offset).run P W = .ok v W ∧ (Instr.checkKey b n f.type v).run P W = .ok () W) : (Instr.checkKey b (n + 1) kt (.agg cs)).run P W = .ok () W := by
 obtain ⟨fs⟩ := fs
 subst d
 simp only [Instr.checkKey, bZ, aS i, bM, List.forIn_toArray]
 have := Hh (P := P) (cs := cs) (b := b) (n := n) (W := W) fs h
 simp only [bZ] at this
 first | rw [this]; rfl | simpa using this
variable {dd : Bool}
def qi (b : Bool) : Option Unit := if b = true then some () else none
theorem HZ {b : Bool} {u : Unit} (h : qi b = some u) : b = true := by
 unfold qi at h; split at h
 ·assumption
 ·cases h
theorem uO {a c : Int} {u : Unit} (h : qi (decide (0 ≤ a) && decide (a ≤ c)) = some u) : 0 ≤ a := by have := HZ h; simp at this; exact this.1
theorem uF {a c : Int} {u : Unit} (h : qi (decide (0 ≤ a) && decide (a ≤ c)) = some u) : a ≤ c := by have := HZ h; simp at this; exact this.2
def zo (k : Nat) (v : Value) (i : Nat) (u : Value) : Prop := ∃ A n c A' d, v = .slice A n c ∧ u = .slice A' (n - i) d ∧ i ≤ n ∧ (i < n → ∃ b o, A = some ⟨b, o, none⟩ ∧ A' = some ⟨b, o + i * k, none⟩)
section
variable {P : Program} {E : Nat → Value} {W : World} {d : Option Nat} {ty : TypeId} {pos : String} {af : Array Edge} {g : Option (Nat × Bool)}
 {F : Nat → Prop} {w : World} {μ : jN} {L : List (Nat × Obj)} {α : Type} {e' : TypeId} {enc : α → List Value} {k : Nat} {v : Value} {l : List α} {R : List (Nat × Obj)}
theorem yl {t e : TypeId} {x b : Operand} {A : IntKind} {i : Int} (p : P.underlying t = some (.slice e)) (he : ∀ w, (sizeOf e).run P w = .ok k w) (q : jv E x = v) (m : jv E b = .int A i) (h : jL e' enc k v l R) (s : 0 ≤ i) (n : i ≤ l.length) :
  ∃ u, zo k v i.toNat u ∧ ∀ W, lu P E ⟨d, .slice t x (some b) none none, ty, pos, af, g⟩ W u W := by
 rcases h with ⟨rfl, rfl, rfl⟩ | ⟨j, cap, r, rfl, rfl, h1, G, I, J⟩
 ·have : i = 0 := by simp at n; omega
  subst this
  refine ⟨.slice none 0 0, ⟨none, 0, 0, none, 0, rfl, rfl, aR _, fun h => absurd h (by simp)⟩, fun W => ?_⟩
  show (do pure (.value (← Instr.sliceAt t (jv E x) (some (jv E b)) none none)) : Sem Next).run P W = _
  rw [q, m]
  simp [Instr.sliceAt, Instr.slice, Instr.sliceBounds, Instr.sliceBound, asIntOf, aS p, he W]
 ·refine ⟨.slice (some (if cap = i.toNat then ⟨j, 0, none⟩ else (Addr.add ⟨j, 0, none⟩ (i.toNat * k)))) (l.length - i.toNat) (cap - i.toNat), ⟨_, _, _, _, _, rfl, rfl, by omega, fun z => ⟨j, 0, rfl, ?_⟩⟩, fun W => ?_⟩
  ·rw [aY (by omega)]; simp [dz]
  ·show (do pure (.value (← Instr.sliceAt t (jv E x) (some (jv E b)) none none)) : Sem Next).run P W = _
   rw [q, m]
   have y : 0 ≤ i ∧ i ≤ (l.length : Int) := ⟨s, n⟩
   simp [Instr.sliceAt, Instr.slice, Instr.sliceBounds, Instr.sliceBound, asIntOf, aS p, he W, y]
   split <;> rfl
theorem Aa {i j : Nat} {x0 : α} (h : (l.drop i)[j]? = some x0) : l[i + j]? = some x0 := by rwa [dM] at h
theorem G0 {t e : TypeId} {x : Operand} {u : Value} {i : Nat} (m : P.underlying t = some (.slice e)) (p : jv E x = u) (hu : zo k v i u) (h : jL e' enc k v l R) : lu P E ⟨d, .call ⟨.builtin .len, #[x], #[t]⟩, ty, pos, af, g⟩ W (.int .i64 ((l.length - i : Nat) : Int)) W := by
 obtain ⟨A, n, c, A', q, h1, j, s, _⟩ := hu
 subst j
 have : n = l.length := by
  rcases h with ⟨rfl, rfl, rfl⟩ | ⟨r, cap, b, rfl, rfl, _⟩
  ·cases h1; rfl
  ·cases h1; rfl
 subst this
 exact yf m p
theorem yx {t e : TypeId} {x q : Operand} {T : IntKind} {i : Int} {x0 : α} {u : Value} {o : Nat} (O : P.underlying t = some (.slice e)) (he : ∀ w, (sizeOf e).run P w = .ok k w) (Q : jv E x = u) (L : jv E q = .int T i) (h : jL e' enc k v l R) (hu : zo k v o u) (G : 0 ≤ i) (M : (l.drop o)[i.toNat]? = some x0) :
  ∃ p, yy R k p (o + i.toNat) ∧ ∀ W, lu P E ⟨d, .indexAddr t x q, ty, pos, af, g⟩ W p W := by
 have j := Aa M
 have m : o + i.toNat < l.length := (aW.1 j).1
 rcases h with ⟨rfl, rfl, rfl⟩ | ⟨z, cap, r, rfl, rfl, h1, Y, Z, h4⟩
 ·simp at m
 obtain ⟨A, n, c, A', U, s, rfl, h7, I⟩ := hu
 cases s
 obtain ⟨b, oo, y, rfl⟩ := I (by omega)
 cases y
 refine ⟨.pointer (some ⟨z, (o + i.toNat) * k, none⟩), ⟨_, _, rfl, rfl⟩, fun W => ?_⟩
 show (do pure (.value (← Instr.indexAt t (jv E x) (jv E q))) : Sem Next).run P W = _
 rw [Q, L]
 have J : 0 ≤ i ∧ i < ((l.length - o : Nat) : Int) := ⟨G, by omega⟩
 simp [Instr.indexAt, asIntOf, aS O, he W, J, dz, cM]
theorem Bs (ys : List Value) (m : Nat) : (Builtin.zeroCells ys.toArray m).toList = (List.replicate m ys).flatten := by
 unfold Builtin.zeroCells
 simp only [Array.toList_map, Array.toList_range, dw]
 rcases ee ys.length with b | b
 ·have : ys = [] := ev.1 b
  subst this
  simp
 apply eu
 intro q
 by_cases h : q < m * ys.length
 ·have h1 : q / ys.length < m := (Nat.div_lt_iff_lt_mul b).2 h
  have d : q % ys.length < ys.length := Nat.mod_lt _ b
  have := wL (enc := fun _ : Unit => ys) (fun _ => rfl) (List.replicate m ()) (q / ys.length) () (by simp [h1]) (q % ys.length) ys[q % ys.length] (by simp [d])
  rw [Nat.div_add_mod' q ys.length] at this
  rw [gS] at this
  rw [this]
  simp [h, d]
 ·rw [fj (by simp; omega), fj (by simp; omega)]
theorem Jp {K : Value → World → Prop} (z : α) (X : List (Nat × Obj)) {Y : List (Nat × Obj)} {t e : TypeId} {x : Operand} {u zv : Value} {i : Nat} (q : ST dd F w W μ (X ++ (R ++ Y))) (h : jL e' enc k v l R) (hk : ∀ x, (enc x).length = k) (h1 : ∀ x, ∀ u ∈ enc x, u.oneCell' = true) (Q : P.underlying t = some (.slice e)) (hz : ∀ w, (zeroValue e).run P w = .ok zv w) (hu : zo k v i u) (hc : zv.cells = (enc z).toArray) (hx : jv E x = u) (M : ∀ W' R', ST dd F w W' μ (X ++ (R' ++ Y)) → jL e' enc k v (nO l i z) R' → K (.tuple #[]) W') : mD P E ⟨d, .call ⟨.builtin .clear, #[x], #[t]⟩, ty, pos, af, g⟩ W K := by
 have p : ∀ (W' : World), (Builtin.clear_ #[t] ty #[u]).run P W = .ok (.tuple #[]) W' → (execOp (jv E) ⟨d, .call ⟨.builtin .clear, #[x], #[t]⟩, ty, pos, af, g⟩).run P W = .ok (.value (.tuple #[])) W' := by
  intro W' hV
  show (do let d ← resolve (jv E) ⟨.builtin .clear, #[x], #[t]⟩ ty; invoke d.target d.args : Sem Next).run P W = _
  simp [resolve, invoke, builtin, hx, hV]
 obtain ⟨A, n, c, A', c', e1, rfl, G, h8⟩ := hu
 rcases h with ⟨rfl, rfl, rfl⟩ | ⟨s, cap, j, rfl, rfl, Z, q2, J, q4⟩
 ·cases e1
  refine .inl ⟨_, W, p W ?_, M W [] q (by simpa [nO] using jL.nil e' enc k)⟩
  simp only [Builtin.clear_, Nat.zero_sub]
  cases A' <;> simp [aS Q]
 ·cases e1
  by_cases hi : i < l.length
  ·obtain ⟨b, o, e2, rfl⟩ := h8 hi
   cases e2
   have U : ∀ m, (Builtin.zeroCells zv.cells m).toList = (List.replicate m (enc z)).flatten := by
    intro m
    rw [hc]; exact Bs _ _
   have hb := (q.box s (.cells j e' (0, 0)) (by simp)).1
   have hle : i * k + (l.length - i) * k = l.length * k := by rw [← cM]; congr 1; omega
   have hlen : l.length * k ≤ c * k := cN _ Z
   have r : ((List.replicate (l.length - i) (enc z)).flatten).length = (l.length - i) * k := by simp [hk]
   have y : ∀ v ∈ (List.replicate (l.length - i) (enc z)).flatten, v.oneCell' = true := by
    intro v I
    obtain ⟨ys, T, I⟩ := iH.1 I
    rw [(List.mem_replicate.1 T).2] at I
    exact h1 z v I
   have hs := ij (P := P) s (i * k) e' ((List.replicate (l.length - i) (enc z)).flatten) 0 j W hb (by rw [r, J]; omega) y
   rw [gb, r, hle] at hs
   refine .inl ⟨_, W.setRow s (j.toList.take (i * k) ++ (List.replicate (l.length - i) (enc z)).flatten ++ j.toList.drop (l.length * k)).toArray, p _ ?_, M _ [(s, .cells (j.toList.take (i * k) ++ (List.replicate (l.length - i) (enc z)).flatten ++ j.toList.drop (l.length * k)).toArray e' (0, 0))] (q.store _) (.inr ⟨s, c, _, by rw [uj _ _ _ G], rfl, by rw [uj _ _ _ G]; exact Z, q2, ?_, ?_⟩)⟩
   ·have hn : l.length - i = (l.length - i - 1) + 1 := by omega
    simp only [Builtin.clear_]
    rw [hn]
    simp only [aS Q, bZ, bM, gr, fU, hz, dI]
    rw [← hn, U, hs]
    simp
   ·have L : j.toList.length = c * k := by simpa using J
    rw [dw, aC, aC, cU, fz, r, L, dB (by omega)]
    omega
   ·rw [uj _ _ _ G, nO, bY, cK, Dh hk l i G, ← q4, fZ, dB (by omega), gS]
    have L : j.toList.length = c * k := by simpa using J
    have e3 : (j.toList.take (i * k) ++ (List.replicate (l.length - i) (enc z)).flatten).length = l.length * k := by rw [aC, cU, r, L, dB (by omega)]; omega
    show List.take (l.length * k) (j.toList.take (i * k) ++ (List.replicate (l.length - i) (enc z)).flatten ++ j.toList.drop (l.length * k)) = _
    rw [eQ, dA (by rw [e3]; exact aR _), e3, Nat.sub_self]
    simp
  ·have O : i = l.length := by omega
   subst O
   refine .inl ⟨_, W, p W ?_, M W _ q ?_⟩
   ·simp only [Builtin.clear_, Nat.sub_self]
    cases A' <;> simp [aS Q]
   ·simp only [nO, List.take_length, Nat.sub_self, List.replicate_zero, bo]
    exact .inr ⟨s, c, j, rfl, rfl, Z, q2, J, q4⟩
end
end Go.Proofs.YtjjjihkifgdhgaaGreatDoor
namespace Go.Proofs.YtjjjihkifgdhgaaGreatDoor
open Go.RowKit
variable {dd : Bool}
section
variable {P : Program} {E : Nat → Value} {W : World} {d : Option Nat} {ty : TypeId} {pos : String} {af : Array Edge} {g : Option (Nat × Bool)}
 {F : Nat → Prop} {w : World} {μ : jN} {L : List (Nat × Obj)}
theorem HA {K : Value → World → Prop} {f : FuncId} {fv : Operand} {ax : Array Operand} {ats : Array TypeId} {args : List Value} {v : Value} (i : jv E fv = .func (.func f) #[] #[]) (ha : ax.map (jv E) ++ (#[] : Array Value) = args.toArray) (j : (callFunc f args.toArray).run P W = .ok (.value v) W) (h : K v W) : mD P E ⟨d, .call ⟨.value fv, ax, ats⟩, ty, pos, af, g⟩ W K := by
 have b : ax.map (jv E) = args.toArray := by simpa using ha
 refine .inl ⟨v, W, ?_, h⟩
 show (do let d ← resolve (jv E) ⟨.value fv, ax, ats⟩ ty; invoke d.target d.args : Sem Next).run P W = _
 simp only [resolve, i, Deferred.ofValue, bZ, dm, bM, invoke]
 rw [b]
 simpa using j
def vG (s : ByteArray) (c : Int) : Int := Lib.indexByte s.data.toList c.toNat.toUInt8
def ot (a b : ByteArray) : Int := Lib.compareBytes a.data.toList b.data.toList
def sh (l : List Int) : List UInt8 := l.map fun x => x.toNat.toUInt8
def wO (a b : List Int) : Int := Lib.compareBytes (sh a) (sh b)
theorem F8 {f : FuncId} {fn : Func} (h : P.funcs[f]? = some fn) (b : (fn.name == "runtime.NumGoroutine") = false) (d : fn.body.isNone = true) (i : Extern.findNext fn = none) (he : Extern.find fn = some Extern.BytealgIndexByte.indexByte) (s : ByteArray) (c : Int) (w : World) :
  (callFunc f [Value.string s, .int .u8 c].toArray).run P w = .ok (.value (.int .i64 (vG s c))) w := by
 rw [fG h b d i he]
 rw [Lib.run_indexByteString]
 rfl
theorem MM {f : FuncId} {fn : Func} (i : P.funcs[f]? = some fn) (d : (fn.name == "runtime.NumGoroutine") = false) (h : fn.body.isNone = true) (j : Extern.findNext fn = none) (he : Extern.find fn = some Extern.BytealgCompare.compare) (a b : ByteArray) (w : World) :
  (callFunc f [Value.string a, .string b].toArray).run P w = .ok (.value (.int .i64 (ot a b))) w := by
 rw [fG i d h j he]
 rw [Lib.run_compareString]
 rfl
theorem CB {v : Value} {l : List Int} (h : Sl (Pl (ku .u8)) 1 (hp W) v l) : (Extern.Bytes.bytesOf v).run P W = .ok ⟨(sh l).toArray⟩ W := by
 obtain ⟨A, c, rfl, s, t, n⟩ := h
 rcases ee l.length with d | d
 ·have : l = [] := ev.1 d
  subst this
  cases A <;> simp [Extern.Bytes.bytesOf, Extern.Bytes.loadBytes, sh] <;> rfl
 ·obtain ⟨b, off, cs, T, fr, rfl, p, q⟩ := n d
  have := Lib.run_loadBytesX (P := P) W l ⟨b, off, none⟩ .empty (fun j x r => by
   obtain ⟨ys, _, m, i⟩ := q j x r
   cases m
   rw [dz, ft W b (off + j) cs T fr p]
   have := i 0 (.int .u8 x) rfl
   simpa using this)
  simp only [Extern.Bytes.bytesOf]
  rw [this]
  congr 1
  apply fI
  show (#[] : Array UInt8) ++ _ = _
  simp [Lib.bytesOf, sh]
theorem Nw {f : FuncId} {fn : Func} (m : P.funcs[f]? = some fn) (d : (fn.name == "runtime.NumGoroutine") = false) (l : fn.body.isNone = true) (n : Extern.findNext fn = none) (he : Extern.find fn = some Extern.BytealgCompare.compare) {h i : Value} {a b : List Int} (h1 : Sl (Pl (ku .u8)) 1 (hp W) h a) (j : Sl (Pl (ku .u8)) 1 (hp W) i b) :
  (callFunc f [h, i].toArray).run P W = .ok (.value (.int .i64 (wO a b))) W := by
 rw [fG m d l n he]
 have : (Extern.BytealgCompare.compare [h, i].toArray).run P W = .ok (.int .i64 (wO a b)) W := by
  change Sem.run P (do pure (goInt (Extern.BytealgCompare.cmp (← Extern.Bytes.bytesOf h) (← Extern.Bytes.bytesOf i)))) W = _
  simp only [bZ, CB h1, CB j, dm, Result.andThen]
  rw [Lib.cmp_eq]
  rfl
 rw [this]
 rfl
theorem sT {fn : Fn} {b : Array Operand} {cs : List Value} {v : Value} (h : b.map (jv E) ++ (#[] : Array Value) = cs.toArray) (i : .func fn #[] cs.toArray = v) : lu P E ⟨d, .makeFunc fn #[] b, ty, pos, af, g⟩ W v W := by
 have : b.map (jv E) = cs.toArray := by simpa using h
 exact Kv (by rw [this]; simpa using i)
theorem kR.mono {f : FuncId} {args : List Value} {L0 : List (Nat × Obj)} {K K' : Value → List (Nat × Obj) → World → Prop} (h : kR dd P f args w L0 K) (hk : ∀ v L1 W', K v L1 W' → K' v L1 W') : kR dd P f args w L0 K' :=
 cW h (fun _ _ ⟨v, L1, h1, b, d⟩ => ⟨v, L1, h1, b, hk _ _ _ d⟩)
end
section
variable {α : Type}
def sD (cf : α × α → Option Int) (x y : α) : Bool := match cf (x, y) with
 | some c => decide (c < 0)
 | none => false
structure Dg (cf : α × α → Option Int) (l : List α) : Prop where
 is : ∀ x ∈ l, ∀ y ∈ l, ∃ c, cf (x, y) = some c
 irrefl : ∀ x ∈ l, sD cf x x = false
 trans : ∀ x ∈ l, ∀ y ∈ l, ∀ z ∈ l, sD cf x y = true → sD cf y z = true → sD cf x z = true
 total : ∀ x ∈ l, ∀ y ∈ l, sD cf x y = false → sD cf y x = false → x = y
 short : l.length < 4611686018427387904
def rL (cf : α × α → Option Int) (l : List α) : List α := l.mergeSort fun x y => !sD cf y x
open Classical in
noncomputable def yr (cf : α × α → Option Int) (l : List α) : Option (List α) := if Dg cf l then some (rL cf l) else none
theorem FY {cf : α × α → Option Int} {l r : List α} (h : yr cf l = some r) : Dg cf l ∧ r = rL cf l := by
 unfold yr at h
 split at h
 ·rename_i b; cases h; exact ⟨b, rfl⟩
 ·cases h
theorem NO {cf : α × α → Option Int} {l : List α} (h : Dg cf l) : yr cf l = some (rL cf l) := by
 unfold yr; rw [aZ h]
def tz (l : List ByteArray) : List ByteArray := l.mergeSort fun x y => !pg y x
end
end Go.Proofs.YtjjjihkifgdhgaaGreatDoor
namespace Go.Proofs.YtjjjihkifgdhgaaGreatDoor
open Go.RowKit
variable {dd : Bool}
def vk {κ γ : Type} (Q : Value → γ → List (Nat × Obj) → Prop) : List (κ × Value) → List (κ × γ) → List (Nat × Obj) → Prop
 | [], [], R => R = []
 | p :: b, q :: l, R => p.1 = q.1 ∧ ∃ R1 R2, R = R1 ++ R2 ∧ Q p.2 q.2 R1 ∧ vk Q b l R2
 | _, _, _ => False
def ml {κ γ : Type} (kenc : κ → Value) (Q : Value → γ → List (Nat × Obj) → Prop) (v : Value) (h : List (κ × Value)) (l : List (κ × γ)) (R : List (Nat × Obj)) : Prop :=
 ∃ b d, R = b ++ d ∧ li kenc (fun x => x) v h b ∧ vk Q h l d
section
variable {κ γ : Type} {Q : Value → γ → List (Nat × Obj) → Prop} {beq : κ → κ → Bool} {kenc : κ → Value}
theorem vk.keys : ∀ {b : List (κ × Value)} {l : List (κ × γ)} {R : List (Nat × Obj)}, vk Q b l R → b.map (·.1) = l.map (·.1)
 | [], [], _, _ => rfl
 | [], _ :: _, _, h => h.elim
 | _ :: _, [], _, h => h.elim
 | p :: b, q :: l, R, h => by
  obtain ⟨h1, R1, R2, _, _, d⟩ := h
  simp [h1, vk.keys d]
theorem vk.find {b : List (κ × Value)} {l : List (κ × γ)} {R : List (Nat × Obj)} (h : vk Q b l R) (k : κ) : b.findIdx? (fun p => beq k p.1) = l.findIdx? (fun p => beq k p.1) := by
 have h1 : (b.map (·.1)).findIdx? (fun x => beq k x) = (l.map (·.1)).findIdx? (fun x => beq k x) := by rw [h.keys]
 rw [ga, ga] at h1
 exact h1
theorem vk.get : ∀ {d : List (κ × Value)} {l : List (κ × γ)} {R : List (Nat × Obj)}, vk Q d l R → ∀ (i : Nat) (k : κ) (x : γ), l[i]? = some (k, x) →
  ∃ v A R1 B, d[i]? = some (k, v) ∧ R = A ++ (R1 ++ B) ∧ Q v x R1 ∧ ∀ k2 v2 x2 R2, Q v2 x2 R2 → vk Q (d.set i (k2, v2)) (l.set i (k2, x2)) (A ++ (R2 ++ B))
 | [], [], _, _, i, k, x, b => by simp at b
 | [], _ :: _, _, h, _, _, _, _ => h.elim
 | _ :: _, [], _, h, _, _, _, _ => h.elim
 | p :: d, q :: l, R, h, 0, k, x, b => by
  obtain ⟨h1, R1, R2, rfl, j, m⟩ := h
  simp at b
  subst b
  refine ⟨p.2, [], R1, R2, by simp only [fU]; exact bA some (Prod.ext h1 rfl), rfl, j, fun k2 v2 x2 R2' n => ⟨rfl, R2', R2, rfl, n, m⟩⟩
 | p :: d, q :: l, R, h, i + 1, k, x, b => by
  obtain ⟨h1, R1, R2, rfl, j, m⟩ := h
  simp at b
  obtain ⟨v, A, R1', B, g1, rfl, g3, g4⟩ := vk.get m i k x b
  exact ⟨v, R1 ++ A, R1', B, by simpa using g1, by simp, g3, fun k2 v2 x2 R2' n => ⟨h1, R1, A ++ (R2' ++ B), by simp, j, g4 k2 v2 x2 R2' n⟩⟩
theorem vk.push : ∀ {d : List (κ × Value)} {l : List (κ × γ)} {R : List (Nat × Obj)}, vk Q d l R → ∀ (k : κ) {v : Value} {x : γ} {R1 : List (Nat × Obj)}, Q v x R1 → vk Q (d ++ [(k, v)]) (l ++ [(k, x)]) (R ++ R1)
 | [], [], _, h, k, v, x, R1, b => by
  have m : _ = [] := h
  subst m
  exact ⟨rfl, R1, [], by simp, b, rfl⟩
 | [], _ :: _, _, h, _, _, _, _, _ => h.elim
 | _ :: _, [], _, h, _, _, _, _, _ => h.elim
 | p :: d, q :: l, R, h, k, v, x, R1, b => by
  obtain ⟨h1, i, j, rfl, n, r⟩ := h
  exact ⟨h1, i, j ++ R1, by simp, n, vk.push r k b⟩
theorem ml.found {w : Value} {m : List (κ × Value)} {l : List (κ × γ)} {R : List (Nat × Obj)} (hk : ∀ {x y : κ}, beq x y = true → x = y) (h : ml kenc Q w m l R) {k : κ} {x : γ} (d : kE beq l k = some x) :
  ∃ v A R1 B, kE beq m k = some v ∧ R = A ++ (R1 ++ B) ∧ Q v x R1 ∧ (∀ x2 R2, Q v x2 R2 → ml kenc Q w m (ns beq l k x2) (A ++ (R2 ++ B))) := by
 obtain ⟨t, I, rfl, z, u⟩ := h
 rw [wF] at d
 cases n : l.findIdx? (fun p => beq k p.1) with
 | none => rw [n] at d; cases d
 | some i =>
  rw [n] at d
  obtain ⟨p, hp, E⟩ := qI n
  simp only [aA, hp, dZ, gd] at d
  subst d
  have s := hk E
  obtain ⟨v, A, R1, B, g1, rfl, g3, g4⟩ := u.get i p.1 p.2 hp
  have q : m.findIdx? (fun p => beq k p.1) = some i := by rw [u.find k, n]
  refine ⟨v, t ++ A, R1, B, by rw [wF, q]; simp [g1], by simp, g3, fun x2 R2 G => ⟨t, A ++ (R2 ++ B), by simp, z, ?_⟩⟩
  have b := g4 k v x2 R2 G
  have e : m.set i (k, v) = m := by
   apply eu
   intro j
   rw [eK]
   split
   ·rename_i r
    subst r
    rw [g1, s]
    simp [(aW.1 g1).1]
   ·rfl
  rw [e] at b
  rw [ns, n]
  exact b
theorem ml.KI {n : Value} {j : List (κ × Value)} {l : List (κ × γ)} {R : List (Nat × Obj)} (h : ml kenc Q n j l R) {k : κ} (b : kE beq l k = none) : kE beq j k = none := by
 obtain ⟨q, r, rfl, s, m⟩ := h
 rw [wF] at b ⊢
 rw [m.find k]
 cases d : l.findIdx? (fun p => beq k p.1) with
 | none => rfl
 | some i =>
  rw [d] at b
  obtain ⟨p, hp, t⟩ := qI d
  simp [hp] at b
def qb (beq : κ → κ → Bool) (b : List (κ × Value)) (k : κ) (z : Value) : Value := (kE beq b k).getD z
variable {P : Program} {W : World} {kt : TypeId} {E : Nat → Value} {d : Option Nat} {ty : TypeId} {pos : String} {af : Array Edge} {g : Option (Nat × Bool)} {F : Nat → Prop} {w : World} {μ : jN} {L : List (Nat × Obj)}
theorem om {t e : TypeId} {m x : Operand} {j z : Value} {i : List (κ × Value)} {l : List (κ × γ)} {R : List (Nat × Obj)} {k : κ} (K : oC P kt kenc beq) (s : P.underlying t = some (.map kt e)) (v : ∀ w, (zeroValue e).run P w = .ok z w) (hm : jv E m = j) (u : jv E x = kenc k) (q : ml kenc Q j i l R) (r : ∀ b o, (b, o) ∈ R → W.heap[b]? = some o) : lu P E ⟨d, .lookup t m x false, ty, pos, af, g⟩ W (qb beq i k z) W := by
 obtain ⟨y, A, rfl, n, G⟩ := q
 have p := HV (d := d) (ty := ty) (pos := pos) (af := af) (g := g) K s v hm u (n.at (μ := hp W) (fun b o h => r b o (cC _ h)))
 simpa [qb] using p
variable {κ2 β : Type} {kenc2 : κ2 → Value} {vf : β → Value} {beq2 : κ2 → κ2 → Bool} {kt2 : TypeId}
theorem ml.Cd {n : Value} {i : List (κ × Value)} {l : List (κ × List (κ2 × β))} {R : List (Nat × Obj)} (hk : ∀ {x y : κ}, beq x y = true → x = y) (h : ml kenc (li kenc2 vf) n i l R) (k : κ) {μ : jN} (j : ∀ b o, (b, o) ∈ R → μ b = some o) :
  uL kenc2 vf μ (qb beq i k (.map none)) ((kE beq l k).getD []) := by
 cases d : kE beq l k with
 | none => rw [qb, h.KI d]; exact .inl ⟨rfl, rfl⟩
 | some x =>
  obtain ⟨v, A, R1, B, g1, rfl, g3, _⟩ := h.found hk d
  rw [qb, g1]
  exact g3.at (fun b o m => j b o (by simp [m]))
theorem ml.isNil {i : Value} {d : List (κ × Value)} {l : List (κ × List (κ2 × β))} {R : List (Nat × Obj)} (hk : ∀ {x y : κ}, beq x y = true → x = y) (h : ml kenc (li kenc2 vf) i d l R) (k : κ) :
  ∃ r, qb beq d k (.map none) = .map r ∧ r.isNone = (kE beq l k).isNone := by
 cases b : kE beq l k with
 | none => rw [qb, h.KI b]; exact ⟨none, rfl, rfl⟩
 | some x =>
  obtain ⟨v, A, R1, B, g1, rfl, g3, _⟩ := h.found hk b
  obtain ⟨m, es, clock, rfl, _⟩ := g3
  rw [qb, g1]
  exact ⟨_, rfl, rfl⟩
def EA {κ κ2 β : Type} (beq : κ → κ → Bool) (beq2 : κ2 → κ2 → Bool) (l : List (κ × List (κ2 × β))) (k : κ) (k2 : κ2) (x : β) : Option (List (κ × List (κ2 × β))) := (kE beq l k).map fun b => ns beq l k (ns beq2 b k2 x)
def EV {κ γ : Type} (beq : κ → κ → Bool) (l : List (κ × γ)) (k : κ) (x : γ) : Option (List (κ × γ)) := if (kE beq l k).isNone then some (ns beq l k x) else none
theorem MF {r : Value → World → Prop} (X : List (Nat × Obj)) {Y R : List (Nat × Obj)} {t e : TypeId} {m x y : Operand} {z : Value} {q : List (κ × Value)} {l s : List (κ × List (κ2 × β))} {k : κ} {k2 : κ2} {v : β} (hk : ∀ {x y : κ}, beq x y = true → x = y) (K : oC P kt2 kenc2 beq2) (J : P.underlying t = some (.map kt2 e)) (j : ST dd F w W μ (X ++ (R ++ Y))) (h : ml kenc (li kenc2 vf) z q l R) (hm : jv E m = qb beq q k (.map none)) (L : jv E x = kenc2 k2) (M : jv E y = vf v) (i : EA beq beq2 l k k2 v = some s) (I : ∀ W' R', ST dd F w W' μ (X ++ (R' ++ Y)) → ml kenc (li kenc2 vf) z q s R' → r undef W') : mD P E ⟨d, .mapUpdate t m x y, ty, pos, af, g⟩ W r := by
 unfold EA at i
 cases n : kE beq l k with
 | none => rw [n] at i; cases i
 | some O =>
  rw [n] at i
  cases i
  obtain ⟨u, A, R1, B, g1, rfl, g3, g4⟩ := h.found hk n
  have p : jv E m = u := by rw [hm, qb, g1]; rfl
  have b : ST dd F w W μ ((X ++ A) ++ (R1 ++ (B ++ Y))) := by simpa using j
  refine A6 (X ++ A) K J b g3 p L M (fun W' R' h1 G => I W' (A ++ (R' ++ B)) ?_ (g4 _ _ G))
  simpa using h1
theorem Lz {I : Value → World → Prop} (X : List (Nat × Obj)) {Y R R2 : List (Nat × Obj)} {t e : TypeId} {m x y : Operand} {G : Value} {A : List (κ × Value)} {l M : List (κ × γ)} {k : κ} {u : Value} {z : γ} (K : oC P kt kenc beq) (ht : P.underlying t = some (.map kt e)) (v : ST dd F w W μ (X ++ (R ++ (R2 ++ Y)))) (h : ml kenc Q G A l R) (hm : jv E m = G) (hx : jv E x = kenc k) (hy : jv E y = u) (hq : Q u z R2) (j : EV beq l k z = some M) (hK : ∀ W' R', ST dd F w W' μ (X ++ (R' ++ Y)) → ml kenc Q G (ns beq A k u) M R' → I undef W') : mD P E ⟨d, .mapUpdate t m x y, ty, pos, af, g⟩ W I := by
 unfold EV at j
 cases r : kE beq l k with
 | some l2 => rw [r] at j; cases j
 | none =>
  rw [r] at j
  simp only [Option.isNone_none, aJ, gd] at j
  subst j
  have hn := h.KI r
  obtain ⟨T, s, rfl, U, Z⟩ := h
  have n : ST dd F w W μ (X ++ (T ++ (s ++ (R2 ++ Y)))) := by simpa using v
  refine A6 X K ht n U hm hx hy (fun W' R' g1 g2 => hK W' (R' ++ (s ++ R2)) (by simpa using g1) ⟨R', s ++ R2, rfl, g2, ?_⟩)
  have J : ∀ {O : Type} (q : List (κ × O)) (y : O), kE beq q k = none → ns beq q k y = q ++ [(k, y)] := fun q y b => by
   rw [wF] at b
   rw [ns]
   cases L : q.findIdx? (fun p => beq k p.1) with
   | none => rfl
   | some i =>
    obtain ⟨p, hp, _⟩ := qI L
    rw [L] at b
    simp [hp] at b
  rw [J A u hn, J l z r]
  exact Z.push k hq
end
end Go.Proofs.YtjjjihkifgdhgaaGreatDoor
namespace Go.Proofs.YtjjjihkifgdhgaaGreatDoor
open Go.RowKit
variable {dd : Bool}
section
variable {κ γ : Type} {Q : Value → γ → List (Nat × Obj) → Prop} {beq : κ → κ → Bool} {kenc : κ → Value}
theorem pS {b : Type} {l : List (κ × b)} {k : κ} {i : Nat} (h : l.findIdx? (fun p => beq k p.1) = some i) (x : b) : ns beq l k x = l.set i (k, x) := by rw [ns, h]
theorem tM {b : Type} {l : List (κ × b)} {k : κ} (h : l.findIdx? (fun p => beq k p.1) = none) (x : b) : ns beq l k x = l ++ [(k, x)] := by rw [ns, h]
theorem CX {b : Type} {l : List (κ × b)} {k : κ} (h : l.findIdx? (fun p => beq k p.1) = none) : kE beq l k = none := by rw [wF, h]; rfl
theorem Cc {b : Type} {l : List (κ × b)} {k : κ} {i : Nat} {p : κ × b} (h : l.findIdx? (fun p => beq k p.1) = some i) (hp : l[i]? = some p) : kE beq l k = some p.2 := by rw [wF, h]; simp [hp]
def K7 (beq : κ → κ → Bool) (kenc : κ → Value) (Q : Value → γ → List (Nat × Obj) → Prop) (h : Value) (d : List (κ × Value)) (l : List (κ × γ)) (k : κ) (R : List (Nat × Obj)) : Prop :=
 ∃ b A B, R = b ++ (A ++ B) ∧ li kenc (fun x => x) h d b ∧ ∀ v x R1, Q v x R1 → vk Q (ns beq d k v) (ns beq l k x) (A ++ (R1 ++ B))
theorem ml.open (hk : ∀ {x y : κ}, beq x y = true → x = y) {u z : Value} {x0 : γ} (q : Q z x0 []) {r : List (κ × Value)} {l : List (κ × γ)} {R : List (Nat × Obj)} (h : ml kenc Q u r l R) (k : κ) :
  ∃ R' R1, R.Perm (R' ++ R1) ∧ Q (qb beq r k z) ((kE beq l k).getD x0) R1 ∧ K7 beq kenc Q u r l k R' := by
 obtain ⟨j, s, rfl, t, m⟩ := h
 have d := m.find (beq := beq) k
 cases b : l.findIdx? (fun p => beq k p.1) with
 | none =>
  rw [b] at d
  refine ⟨j ++ s, [], by simp, ?_, j, s, [], by simp, t, fun v x R1 n => ?_⟩
  ·rw [qb, CX b, CX d]; exact q
  ·rw [tM b, tM d]; simpa using m.push k n
 | some i =>
  rw [b] at d
  obtain ⟨p, hp, w⟩ := qI b
  have E := hk w
  obtain ⟨v, A, R1, B, g1, rfl, g3, g4⟩ := m.get i p.1 p.2 hp
  refine ⟨j ++ (A ++ B), R1, ?_, ?_, j, A, B, rfl, t, fun v2 x2 R2 n => ?_⟩
  ·rw [aI, aI]
   refine bV _ (bV _ ed)
  ·rw [qb, Cc b hp, Cc d g1]; exact g3
  ·rw [pS b, pS d]; exact g4 k v2 x2 R2 n
variable {P : Program} {W : World} {kt : TypeId} {E : Nat → Value} {d : Option Nat} {ty : TypeId} {pos : String} {af : Array Edge} {g : Option (Nat × Bool)} {F : Nat → Prop} {w : World} {μ : jN} {L : List (Nat × Obj)}
theorem Qx {n : Value → World → Prop} (X : List (Nat × Obj)) {Y R R1 : List (Nat × Obj)} {t e : TypeId} {m x y : Operand} {j : Value} {p : List (κ × Value)} {l : List (κ × γ)} {k : κ} {u : Value} {z : γ} (K : oC P kt kenc beq) (I : P.underlying t = some (.map kt e)) (i : ST dd F w W μ (X ++ (R ++ (R1 ++ Y)))) (h : K7 beq kenc Q j p l k R) (hm : jv E m = j) (J : jv E x = kenc k) (L : jv E y = u) (G : Q u z R1) (v : ∀ W' R', ST dd F w W' μ (X ++ (R' ++ Y)) → ml kenc Q j (ns beq p k u) (ns beq l k z) R' → n undef W') : mD P E ⟨d, .mapUpdate t m x y, ty, pos, af, g⟩ W n := by
 obtain ⟨q, A, B, rfl, r, s⟩ := h
 have b : ST dd F w W μ (X ++ (q ++ (A ++ (B ++ (R1 ++ Y))))) := by simpa using i
 refine A6 X K I b r hm J L (fun W' R' g1 g2 => v W' (R' ++ (A ++ (R1 ++ B))) ?_ ⟨R', A ++ (R1 ++ B), rfl, g2, s u z R1 G⟩)
 refine g1.perm ?_
 simp only [aI]
 refine bV _ (bV _ (bV _ ?_))
 rw [← aI, ← aI]
 exact gh _ ed
def Hz (beq : κ → κ → Bool) (kenc : κ → Value) (Q : Value → γ → List (Nat × Obj) → Prop) (d : Value) (l : List (κ × γ)) (k : κ) (h : Nat) (R : List (Nat × Obj)) : Prop :=
 ∃ m es clock b A B i e, d = .map (some m) ∧ R = (m, .map es clock) :: (A ++ B) ∧ te kenc (fun x => x) b es clock ∧ es[i]? = some e ∧ e.born = h ∧ b.findIdx? (fun p => beq k p.1) = some i ∧
  ∀ v x R1, Q v x R1 → vk Q (ns beq b k v) (ns beq l k x) (A ++ (R1 ++ B))
theorem GU {l : Type} (hk : ∀ x : κ, beq x x = true) (h : List (κ × l)) (k : κ) (a b : l) : ns beq (ns beq h k a) k b = ns beq h k b := by
 cases d : h.findIdx? (fun p => beq k p.1) with
 | none =>
  have h1 : (h ++ [(k, a)]).findIdx? (fun p => beq k p.1) = some h.length := by
   rw [gB, d]
   simp [eG, hk]
  rw [tM d, tM d, pS h1]
  simp
 | some i =>
  obtain ⟨p, hp, r⟩ := qI d
  have h1 : (h.set i (k, a)).findIdx? (fun p => beq k p.1) = some i := by
   rw [dV] at d ⊢
   obtain ⟨h1, q, m⟩ := d
   refine ⟨by simpa using h1, by simp [hk], fun j n => ?_⟩
   rw [List.getElem_set_ne (by omega)]
   exact m j n
  rw [pS d, pS d, pS h1]
  simp
end
end Go.Proofs.YtjjjihkifgdhgaaGreatDoor
namespace Go.Proofs.YtjjjihkifgdhgaaGreatDoor
open Go.RowKit
variable {dd : Bool}
section
variable {κ γ : Type} {Q : Value → γ → List (Nat × Obj) → Prop} {beq : κ → κ → Bool} {kenc : κ → Value}
variable {P : Program} {W : World} {kt : TypeId} {E : Nat → Value} {d : Option Nat} {ty : TypeId} {pos : String} {af : Array Edge} {g : Option (Nat × Bool)} {F : Nat → Prop} {w : World} {μ : jN} {L : List (Nat × Obj)}
theorem Dc {es : Array MapEntry} {i : Nat} {f d : MapEntry → MapEntry} (h : ∀ e, es[i]? = some e → f e = d e) : es.modify i f = es.modify i d := by
 apply Array.ext_getElem?
 intro j
 rw [dF, dF]
 split
 ·rename_i b
  subst b
  cases he : es[i]? with
  | none => rfl
  | some e => simp [h e he]
 ·rfl
theorem te.val {d : List (κ × Value)} {es : Array MapEntry} {clock : Nat} (h : te kenc (fun x => x) d es clock) {i : Nat} {e : MapEntry} (he : es[i]? = some e) : ∃ p, d[i]? = some p ∧ e.key = kenc p.1 ∧ e.val = p.2 := by
 have b := bA (fun q => q[i]?) h.D1
 simp only [ew, dG, he, dZ] at b
 cases hp : d[i]? with
 | none => rw [hp] at b; cases b
 | some p =>
  rw [hp] at b
  simp only [dZ, gd, Prod.mk.injEq] at b
  exact ⟨p, rfl, b.1, b.2⟩
theorem KP {Kk : Value → World → Prop} (X : List (Nat × Obj)) {Y R : List (Nat × Obj)} {t e : TypeId} {m x : Operand} {mv z : Value} {x0 : γ} {lv : List (κ × Value)} {l : List (κ × γ)} {k : κ} (hk : ∀ {x y : κ}, beq x y = true ↔ x = y) (K : oC P kt kenc beq) (ht : P.underlying t = some (.map kt e)) (hz : ∀ w, (zeroValue e).run P w = .ok z w) (ag : Q z x0 []) (Z : ST dd F w W μ (X ++ (R ++ Y))) (h : ml kenc Q mv lv l R) (hm : jv E m = mv) (hx : jv E x = kenc k) (hK : ∀ W' v st R' R1, ST dd F w W' μ (X ++ (R' ++ (R1 ++ Y))) → Q v ((kE beq l k).getD x0) R1 → Hz beq kenc Q mv l k st R' → Kk (.tuple #[v, .int .i64 (st : Nat)]) W') : mD P E ⟨d, .mapEntry t m x, ty, pos, af, g⟩ W Kk := by
 obtain ⟨Rm, Rv, rfl, ⟨s, es, clock, rfl, rfl, u⟩, U⟩ := h
 have hb : W.heap[s]? = some (.map es clock) := (Z.box s (.map es clock) (by simp)).1
 have h5 : (getObj s : Sem Obj).run P W = .ok (.map es clock) W := by simp [getObj, Sem.run, hb]
 have O := K.find k _ _ u.keys W
 rw [u.get k] at O
 have J := U.find (beq := beq) k
 have I : ∀ W' v, (Instr.mapEntry t (.map (some s)) (kenc k)).run P W = .ok v W' → (execOp (jv E) ⟨d, .mapEntry t m x, ty, pos, af, g⟩).run P W = .ok (.value v) W' := by
  intro W' v hr
  show (do pure (.value (← Instr.mapEntry t (jv E m) (jv E x))) : Sem Next).run P W = _
  rw [hm, hx]
  simp [hr]
 have G : ST dd F w W μ (X ++ (s, .map es clock) :: (Rv ++ Y)) := by simpa using Z
 cases n : lv.findIdx? (fun p => beq k p.1) with
 | none =>
  rw [n] at O J
  have b := u.put (beq := beq) k z
  rw [n] at b
  refine .inl ⟨_, ChangeMaps.setBlock W s (.map (es.push { key := kenc k, val := z, born := clock }) (clock + 1)), I _ (.tuple #[z, .int .i64 (clock : Nat)]) ?_, hK _ z clock ((s, .map (es.push { key := kenc k, val := z, born := clock }) (clock + 1)) :: (Rv ++ [])) [] ?_ ?_ ?_⟩
  ·simp [Instr.mapEntry, aS ht, h5, K.check, O, xe hb, hz _, goInt]
  ·have := G.setBlock (.map (es.push { key := kenc k, val := z, born := clock }) (clock + 1))
   simpa using this
  ·rw [CX J.symm]; exact ag
  ·refine ⟨s, _, _, lv ++ [(k, z)], Rv, [], es.size, { key := kenc k, val := z, born := clock }, rfl, rfl, b, by simp, rfl, ?_, fun v x R1 hq => ?_⟩
   ·rw [gB, n]
    have ad := u.length
    simp [eG, hk, ad]
   ·rw [← tM n, GU (fun x => hk.2 rfl), tM n, tM J.symm]
    simpa using U.push k hq
 | some i =>
  rw [n] at O J
  obtain ⟨p, hp, ae⟩ := qI n
  obtain ⟨q, ab, a1⟩ := qI J.symm
  have ai := hk.1 a1
  obtain ⟨v, A, R1, B, g1, rfl, g3, g4⟩ := U.get i q.1 q.2 ab
  have aa : p.2 = v := by rw [g1] at hp; cases hp; rfl
  have ad := u.length
  have ah : i < lv.length := (aW.1 hp).1
  obtain ⟨T, r⟩ : ∃ T, es[i]? = some T := ⟨es[i], Array.getElem?_eq_getElem (by omega)⟩
  obtain ⟨p', a8, L, M⟩ := u.val r
  rw [hp] at a8
  cases a8
  simp only [aA, hp, dZ] at O
  have b := u.put (beq := beq) k v
  rw [n] at b
  have a6 : ((es[i]?).map (·.key)).getD (kenc k) = kenc k := by
   rw [r]
   simp only [dZ, gv, L]
   exact K.eq k p.1 ae
  have a7 : es.modify i (fun e => { e with key := kenc k }) = es.modify i (fun e => { e with key := kenc k, val := v }) := Dc fun e he => by
   rw [r] at he; cases he
   rw [← aa, ← M]
  refine .inl ⟨_, ChangeMaps.setBlock W s (.map (es.modify i fun e => { e with key := kenc k, val := v }) clock), I _ (.tuple #[v, .int .i64 (T.born : Nat)]) ?_, hK _ v T.born ((s, .map (es.modify i fun e => { e with key := kenc k, val := v }) clock) :: (A ++ B)) R1 ?_ ?_ ?_⟩
  ·simp only [Instr.mapEntry, bZ, aS ht, h5, K.check, O, bM, a6, Instr.keyThatStays, K.bits, aJ, dm]
   rw [xe hb, a7]
   simp [r, goInt, aa]
  ·have := G.setBlock (.map (es.modify i fun e => { e with key := kenc k, val := v }) clock)
   refine this.perm ?_
   simp only [aI, bO]
   refine bV _ (List.Perm.cons _ (bV _ ?_))
   rw [← aI, ← aI]
   exact gh _ ed
  ·rw [Cc J.symm ab]; exact g3
  ·refine ⟨s, _, _, lv.set i (k, v), A, B, i, { T with key := kenc k, val := v }, rfl, rfl, b, ?_, rfl, ?_, fun v2 x2 R2 hq => ?_⟩
   ·rw [dF, aZ rfl, r]; rfl
   ·rw [dV] at n ⊢
    obtain ⟨h1, u, U⟩ := n
    refine ⟨by simpa using h1, by simp [hk], fun j hj => ?_⟩
    rw [List.getElem_set_ne (by omega)]
    exact U j hj
   ·rw [← pS n, GU (fun x => hk.2 rfl), pS n, pS J.symm]
    exact g4 k v2 x2 R2 hq
theorem L8 {es : Array MapEntry} (h : es.toList.Pairwise (fun a b => a.born < b.born)) {i : Nat} {e : MapEntry} (he : es[i]? = some e) : es.findIdx? (fun a => (a.born : Int) == (e.born : Int)) = some i := by
 rw [Array.findIdx?_eq_some_iff_getElem]
 obtain ⟨l, d⟩ := dv.1 he
 refine ⟨l, by rw [d]; simp, fun j m => ?_⟩
 have := List.pairwise_iff_getElem.1 h j i (by simpa using Nat.lt_trans m l) (by simpa using l) m
 simp only [Array.getElem_toList] at this
 rw [d] at this
 simp
 omega
theorem I1 {Kk : Value → World → Prop} (X : List (Nat × Obj)) {Y R R1 : List (Nat × Obj)} {t e : TypeId} {m s y : Operand} {mv u : Value} {z : γ} {l : List (κ × γ)} {k : κ} {st : Nat} (hk : ∀ {x y : κ}, beq x y = true ↔ x = y) (K : oC P kt kenc beq) (v : ST dd F w W μ (X ++ (R ++ (R1 ++ Y)))) (h : Hz beq kenc Q mv l k st R) (hm : jv E m = mv) (hs : jv E s = .int .i64 (st : Nat)) (hy : jv E y = u) (hq : Q u z R1) (hK : ∀ W' a1 R', ST dd F w W' μ (X ++ (R' ++ Y)) → ml kenc Q mv a1 (ns beq l k z) R' → Kk undef W') : mD P E ⟨d, .entryStore t m s y, ty, pos, af, g⟩ W Kk := by
 obtain ⟨j, es, clock, lv, A, B, i, en, rfl, rfl, O, q, n, U, h3⟩ := h
 have hb : W.heap[j]? = some (.map es clock) := (v.box j (.map es clock) (by simp)).1
 have h5 : (getObj j : Sem Obj).run P W = .ok (.map es clock) W := by simp [getObj, Sem.run, hb]
 obtain ⟨p, hp, T⟩ := qI U
 obtain ⟨p', M, r, Z⟩ := O.val q
 rw [hp] at M
 cases M
 have b := O.put (beq := beq) k u
 rw [U] at b
 have L : es.modify i (fun e => { e with val := u }) = es.modify i (fun e => { e with key := kenc k, val := u }) := Dc fun e he => by
  rw [q] at he; cases he
  have I : en.key = kenc k := by rw [r]; exact K.eq k p.1 T
  rw [← I]
 have J := L8 O.born q
 rw [n] at J
 have G : ST dd F w W μ (X ++ (j, .map es clock) :: (A ++ (B ++ (R1 ++ Y)))) := by simpa using v
 refine .inr (.inl ⟨ChangeMaps.setBlock W j (.map (es.modify i fun e => { e with key := kenc k, val := u }) clock), ?_, hK _ (ns beq lv k u) ((j, .map (es.modify i fun e => { e with key := kenc k, val := u }) clock) :: (A ++ (R1 ++ B))) ?_ ⟨[(j, .map (es.modify i fun e => { e with key := kenc k, val := u }) clock)], A ++ (R1 ++ B), rfl, ⟨j, _, _, rfl, rfl, ?_⟩, h3 u z R1 hq⟩⟩)
 ·show (do Instr.entryStore t (jv E m) (jv E s) (jv E y); pure .skip : Sem Next).run P W = _
  rw [hm, hs, hy]
  simp only [Instr.entryStore, bZ, h5, bM, asInt, asIntOf, dm, J]
  rw [xe hb, L]
  rfl
 ·have := G.setBlock (.map (es.modify i fun e => { e with key := kenc k, val := u }) clock)
  refine this.perm ?_
  simp only [aI, bO]
  refine bV _ (List.Perm.cons _ (bV _ ?_))
  rw [← aI, ← aI]
  exact gh _ ed
 ·rw [pS U]; exact b
end
end Go.Proofs.YtjjjihkifgdhgaaGreatDoor
namespace Go.Proofs.YtjjjihkifgdhgaaGreatDoor
open Go.RowKit
variable {dd : Bool}
section
variable {κ γ : Type} {Q : Value → γ → List (Nat × Obj) → Prop} {beq : κ → κ → Bool} {kenc : κ → Value}
def lj (kenc : κ → Value) (Q : Value → γ → List (Nat × Obj) → Prop) (v : Value) (l : List (κ × γ)) (R : List (Nat × Obj)) : Prop := ∃ b, ml kenc Q v b l R
def pv (kenc : κ → Value) (Q : Value → γ → List (Nat × Obj) → Prop) (μ : jN) (v : Value) (l : List (κ × γ)) : Prop := ∃ d R, ml kenc Q v d l R ∧ ∀ b o, (b, o) ∈ R → μ b = some o
theorem lj.at {v : Value} {l : List (κ × γ)} {R : List (Nat × Obj)} {μ : jN} (h : lj kenc Q v l R) (d : ∀ b o, (b, o) ∈ R → μ b = some o) : pv kenc Q μ v l := let ⟨i, h⟩ := h; ⟨i, R, h, d⟩
theorem pv.mono {v : Value} {l : List (κ × γ)} {μ μ' : jN} (h : pv kenc Q μ v l) (j : jT μ μ') : pv kenc Q μ' v l := let ⟨m, R, h, d⟩ := h; ⟨m, R, h, fun b o i => j _ _ (d b o i)⟩
theorem ml.form {v : Value} {b : List (κ × Value)} {l : List (κ × γ)} {R : List (Nat × Obj)} (h : ml kenc Q v b l R) : ∃ m, v = .map (some m) := let ⟨_, _, _, h, _⟩ := h; h.form
theorem ml.e {v : Value} {b : List (κ × Value)} {l : List (κ × γ)} {R : List (Nat × Obj)} (h : ml kenc Q v b l R) : lj kenc Q v l R := ⟨b, h⟩
theorem lj.form {v : Value} {l : List (κ × γ)} {R : List (Nat × Obj)} (h : lj kenc Q v l R) : ∃ m, v = .map (some m) := let ⟨_, h⟩ := h; h.form
theorem lj.new {v : Value} {R : List (Nat × Obj)} (h : li (β := Value) kenc (fun x => x) v [] R) : lj kenc Q v [] R := ⟨[], R, [], (bo R).symm, h, rfl⟩
theorem ml.rowAt {α : Type} {e : TypeId} {enc : α → List Value} {n : Nat} {m : Value} {i : List (κ × Value)} {l : List (κ × List α)} {R : List (Nat × Obj)} (hk : ∀ {x y : κ}, beq x y = true → x = y) (h : ml kenc (jL e enc n) m i l R) (k : κ) :
  ∃ R1, jL e enc n (qb beq i k (.slice none 0 0)) ((kE beq l k).getD []) R1 ∧ ∀ b o, (b, o) ∈ R1 → (b, o) ∈ R := by
 cases d : kE beq l k with
 | none => refine ⟨[], ?_, fun b o h => by cases h⟩; rw [qb, h.KI d]; exact .inl ⟨rfl, rfl, rfl⟩
 | some x =>
  obtain ⟨v, A, R1, B, g1, rfl, g3, _⟩ := h.found hk d
  refine ⟨R1, ?_, fun b o j => by simp [j]⟩
  rw [qb, g1]; exact g3
theorem jL.Cx {α : Type} {e : TypeId} {enc : α → List Value} {k : Nat} {v : Value} {l : List α} {R : List (Nat × Obj)} (h : jL e enc k v l R) (hk : ∀ x, (enc x).length = k) : Sl (Pl enc) k (Bf R) v l := by
 refine h.sl hk (fun b o d => ?_)
 rcases h with ⟨rfl, rfl, rfl⟩ | ⟨g, cap, i, rfl, rfl, _⟩
 ·cases d
 ·simp at d; obtain ⟨rfl, rfl⟩ := d; simp [Bf]
end
theorem nc.hp (W : World) : nc (hp W) [] W := ⟨fun _ _ h => h, fun _ _ h => by cases h⟩
section
variable {P : Program} {W : World} {E : Nat → Value} {d : Option Nat} {ty : TypeId} {pos : String} {af : Array Edge} {g : Option (Nat × Bool)} {F : Nat → Prop} {w : World} {μ : jN} {L : List (Nat × Obj)}
theorem F0 {t k e : TypeId} (dd : Nat) (b : P.underlying t = some (.map k e)) (a : Option Nat) (W : World) : (Op.equalIn (dd + 1) t (.map a) (.map none)).run P W = .ok a.isNone W := by
 cases a <;> simp [Op.equalIn, aS b]
theorem Lb {tx tv k e : TypeId} {x y : Operand} {r : Option Nat} {b : Bool} (j : P.underlying tx = some (.map k e)) (l : jv E x = .map r) (m : jv E y = .map none) (i : r.isNone = b) :
  lu P E ⟨d, .binOp .eql tx x y tv, ty, pos, af, g⟩ W (.bool b) W := by
 subst i
 show (do let r ← (do eqGuard .eql tx x y (jv E x) (jv E y); binOp .eql tx (jv E x) (jv E y)); pure (.value r) : Sem Next).run P W = _
 rw [l, m]
 have h := F0 9999 j r W
 simp [eqGuard, binOp, Op.equal, show Op.maxDepth = 9999 + 1 from rfl, h]
theorem Jg {κ κ2 β : Type} {kenc : κ → Value} {kenc2 : κ2 → Value} {vf : β → Value} {beq : κ → κ → Bool} {tx tv kt e : TypeId} {x y : Operand} {p : Value} {b : List (κ × Value)} {l : List (κ × List (κ2 × β))} {R : List (Nat × Obj)} {k : κ} (hk : ∀ {x y : κ}, beq x y = true → x = y) (j : P.underlying tx = some (.map kt e)) (h : ml kenc (li kenc2 vf) p b l R) (m : jv E x = qb beq b k (.map none)) (n : jv E y = .map none) :
  lu P E ⟨d, .binOp .eql tx x y tv, ty, pos, af, g⟩ W (.bool (kE beq l k).isNone) W := by
 obtain ⟨r, h1, i⟩ := h.isNil hk k
 exact Lb j (m.trans h1) n i
theorem BU {κ γ : Type} {h : Value → World → Prop} {t : TypeId} (kenc : κ → Value) (Q : Value → γ → List (Nat × Obj) → Prop) (b : ST dd F w W μ L) (j : ∀ W' v R, ST dd F w W' μ (R ++ L) → lj kenc Q v [] R → h v W') : mD P E ⟨d, .makeMap t none, ty, pos, af, g⟩ W h :=
 GX kenc (fun x : Value => x) b (fun W' v R h1 i => j W' v R h1 (lj.new i))
end
def oL {α : Type} (e : TypeId) (enc : α → List Value) (k : Nat) (v : Value) (l : List α) (R : List (Nat × Obj)) : Prop :=
 (v = .slice none 0 0 ∧ l = [] ∧ R = []) ∨
 ∃ g off cap b, v = .slice (some ⟨g, off, none⟩) l.length cap ∧ R = [(g, .cells b e (0, 0))] ∧ l.length ≤ cap ∧ cap ≤ maxLen ∧ off + cap * k ≤ b.size ∧ (b.toList.drop off).take (l.length * k) = (l.map enc).flatten
section
variable {α : Type} {e : TypeId} {enc : α → List Value} {k : Nat} {v : Value} {l : List α} {R : List (Nat × Obj)}
theorem oL.nil (e : TypeId) (enc : α → List Value) (k : Nat) : oL e enc k (.slice none 0 0) [] [] := .inl ⟨rfl, rfl, rfl⟩
theorem jL.RE (h : jL e enc k v l R) : oL e enc k v l R := by
 rcases h with h | ⟨g, cap, b, h1, d, i, j, n, m⟩
 ·exact .inl h
 ·exact .inr ⟨g, 0, cap, b, h1, d, i, j, by omega, by simpa using m⟩
theorem oL.len (h : oL e enc k v l R) : l.length ≤ 9223372036854775807 := by
 rcases h with ⟨rfl, rfl, rfl⟩ | ⟨g, off, cap, b, rfl, rfl, h1, d, _⟩
 ·simp
 ·unfold maxLen at d; omega
theorem oL.form (h : oL e enc k v l R) : ∃ A c, v = .slice A l.length c := by
 rcases h with ⟨rfl, rfl, rfl⟩ | ⟨g, off, cap, b, rfl, rfl, _⟩
 ·exact ⟨_, _, rfl⟩
 ·exact ⟨_, _, rfl⟩
theorem oL.Cx (h : oL e enc k v l R) (hk : ∀ x, (enc x).length = k) : Sl (Pl enc) k (Bf R) v l := by
 rcases h with ⟨rfl, rfl, rfl⟩ | ⟨g, off, cap, b, rfl, rfl, h1, m, r, n⟩
 ·exact Sl.nil _ _ _
 ·refine ⟨_, cap, rfl, h1, m, fun _ => ⟨g, off, b, e, (0, 0), rfl, by simp [Bf], fun i x p => ⟨enc x, hk x, rfl, fun j y q => ?_⟩⟩⟩
  have := wL hk l i x p j y q
  rw [← n] at this
  have d : i * k + j < l.length * k := by
   have := (aW.1 this).1
   simp at this; omega
  rw [dq d, dM] at this
  simpa [dW] using this
variable {P : Program} {W : World} {E : Nat → Value} {d : Option Nat} {ty : TypeId} {pos : String} {af : Array Edge} {g : Option (Nat × Bool)} {F : Nat → Prop} {w : World} {μ : jN} {L : List (Nat × Obj)}
theorem NP {x : Operand} {t b : TypeId} (i : P.underlying t = some (.slice b)) (j : jv E x = v) (h : oL e enc k v l R) : lu P E ⟨d, .call ⟨.builtin .len, #[x], #[t]⟩, ty, pos, af, g⟩ W (.int .i64 l.length) W := by
 obtain ⟨A, c, rfl⟩ := h.form
 exact yf i j
theorem KE {t r : TypeId} {x p : Operand} {Q : IntKind} {i : Int} (A : P.underlying t = some (.slice r)) (he : ∀ w, (sizeOf r).run P w = .ok k w) (G : jv E x = v) (y : jv E p = .int Q i) (hk : ∀ x, (enc x).length = k) (h : oL e enc k v l R) (I : 0 ≤ i) (z : i ≤ l.length) :
  ∃ u, oL e enc k u (l.drop i.toNat) R ∧ ∀ W, lu P E ⟨d, .slice t x (some p) none none, ty, pos, af, g⟩ W u W := by
 rcases h with ⟨rfl, rfl, rfl⟩ | ⟨n, off, cap, j, rfl, rfl, h1, T, U, J⟩
 ·have : i = 0 := by simp at z; omega
  subst this
  refine ⟨.slice none 0 0, by simpa using oL.nil e enc k, fun W => ?_⟩
  show (do pure (.value (← Instr.sliceAt t (jv E x) (some (jv E p)) none none)) : Sem Next).run P W = _
  rw [G, y]
  simp [Instr.sliceAt, Instr.slice, Instr.sliceBounds, Instr.sliceBound, asIntOf, aS A, he W]
 ·refine ⟨.slice (some (if cap = i.toNat then ⟨n, off, none⟩ else (Addr.add ⟨n, off, none⟩ (i.toNat * k)))) (l.length - i.toNat) (cap - i.toNat), .inr ?_, fun W => ?_⟩
  ·have b : (l.drop i.toNat).length = l.length - i.toNat := by simp
   have m : (l.map enc).flatten.drop (i.toNat * k) = ((l.drop i.toNat).map enc).flatten := by
    have L : l = l.take i.toNat ++ l.drop i.toNat := (gu _ _).symm
    have M : ((l.take i.toNat).map enc).flatten.length = i.toNat * k := by rw [oW hk, cU, dB (by omega)]
    conv => lhs; rw [L, bY, cK]
    rw [← M, List.drop_left]
   by_cases s : cap = i.toNat
   ·rw [aZ s]
    have q : l.drop i.toNat = [] := List.drop_eq_nil_of_le (by omega)
    refine ⟨n, off, cap - i.toNat, j, by rw [q]; simp; omega, rfl, by rw [q]; simp, by omega, by have : (cap - i.toNat) * k ≤ cap * k := cN _ (by omega); omega, by rw [q]; simp⟩
   ·rw [aY s]
    refine ⟨n, off + i.toNat * k, cap - i.toNat, j, by rw [b, dz], rfl, by rw [b]; omega, by omega, ?_, ?_⟩
    ·have : i.toNat * k + (cap - i.toNat) * k = cap * k := by rw [← cM]; congr 1; omega
     omega
    ·rw [b, ← m, ← J, gQ, List.drop_drop, Nat.sub_mul]
  ·show (do pure (.value (← Instr.sliceAt t (jv E x) (some (jv E p)) none none)) : Sem Next).run P W = _
   rw [G, y]
   have O : 0 ≤ i ∧ i ≤ (l.length : Int) := ⟨I, z⟩
   simp [Instr.sliceAt, Instr.slice, Instr.sliceBounds, Instr.sliceBound, asIntOf, aS A, he W, O]
   split <;> rfl
theorem Jj {K : Value → World → Prop} {t : TypeId} {a6 : Nat} {z vs : Value} {m r : List α} (X : List (Nat × Obj)) {Y : List (Nat × Obj)} {x y : Operand} {i : TypeInfo} (a7 : ST dd F w W μ (X ++ (R ++ Y))) (hk : ∀ x, (enc x).length = k) (ak : 0 < k) (h1 : ∀ x, ∀ u ∈ enc x, u.oneCell' = true) (ht : P.underlying t = some (.slice e)) (hi : P.info? e = some i) (hz : i.zero = some z) (ab : z.cells.size = k) (a1 : i.size = k) (a8 : i.bytes = a6) (hx : jv E x = v) (hy : jv E y = vs) (hR : oL e enc k v l R) (hs : Sl (Pl enc) k (hp W) vs m) (hb : lC a6 l m = some r) (h : ∀ W' v' R', ST dd F w W' μ (X ++ (R' ++ Y)) → oL e enc k v' r R' → K v' W') : mD P E ⟨d, .call ⟨.builtin .append, #[x, y], #[t, t]⟩, ty, pos, af, g⟩ W K := by
 rcases hR with ⟨rfl, rfl, rfl⟩ | ⟨s, off, cap, p, rfl, rfl, h2, h3, h4, h5⟩
 ·exact Ib X a7 hk ak h1 ht hi hz ab a1 a8 hx hy (jL.nil e enc k) hs hb (fun W' v' R' a b => h W' v' R' a b.RE)
 unfold lC at hb
 split at hb
 case isFalse => cases hb
 rename_i Z
 cases hb
 have U : ∀ (V : Value) (W' : World), (Builtin.append_ #[t, t] ty #[.slice (some ⟨s, off, none⟩) l.length cap, vs]).run P W = .ok V W' → (execOp (jv E) ⟨d, .call ⟨.builtin .append, #[x, y], #[t, t]⟩, ty, pos, af, g⟩).run P W = .ok (.value V) W' := by
  intro V W' hV
  show (do let d ← resolve (jv E) ⟨.builtin .append, #[x, y], #[t, t]⟩ ty; invoke d.target d.args : Sem Next).run P W = _
  simp [resolve, invoke, builtin, hx, hy, hV]
 obtain ⟨A, c, rfl, ao, ap, ah⟩ := hs
 have L : ST dd F w W μ (X ++ (s, .cells p e (0, 0)) :: Y) := by simpa using a7
 have hg : W.heap[s]? = some (.cells p e (0, 0)) := (L.box s _ (by simp)).1
 have J := oW hk l
 have Q : ∀ u ∈ (m.map enc).flatten, u.oneCell' = true := by
  intro u hu
  obtain ⟨ys, an, al⟩ := iH.1 hu
  obtain ⟨x, _, rfl⟩ := bH.1 an
  exact h1 x u al
 have I : Src P i.size t (.slice A m.length c) m.length ((m.map enc).flatten) W := by
  rw [a1]
  rcases ee m.length with h0 | h0
  ·have hm : m = [] := aO h0
   subst hm
   cases A with
   | none => exact Src.ofNil W ht c
   | some ad => exact Src.ofSlice W ht ad 0 c [] (by simp) (fun j u hu => by simp at hu) (fun u hu => by cases hu)
  ·obtain ⟨b, o, cs, T, fr, rfl, h6, h7⟩ := ah h0
   refine Src.ofSlice W ht _ _ c _ (oW hk m) (fun j u hu => ?_) Q
   obtain ⟨i, x, q, h8, h9, rfl⟩ := ER hk m j u hu
   obtain ⟨ys, _, ae, ag⟩ := h7 i x h8
   cases ae
   rw [dz, ft W b (o + (i * k + q)) cs T fr h6, ← dW]
   exact ag q u h9
 have n := oW hk m
 have O : ((l ++ m).map enc).flatten = (l.map enc).flatten ++ (m.map enc).flatten := by simp
 generalize (m.map enc).flatten = fm at I Q n O
 subst a1
 have aq : l.length * i.size ≤ cap * i.size := cN _ h2
 by_cases G : l.length + m.length ≤ cap
 ·have ar : l.length * i.size + m.length * i.size ≤ cap * i.size := by rw [← cM]; exact cN _ G
  have aa := ij (P := P) s (off + l.length * i.size) e fm 0 p W hg (by rw [n]; omega) Q
  have M : (Builtin.append_ #[t, t] ty #[.slice (some ⟨s, off, none⟩) l.length cap, .slice A m.length c]).run P W = .ok (.slice (some ⟨s, off, none⟩) (l.length + m.length) cap) (W.setRow s (p.toList.take (off + l.length * i.size) ++ fm ++ p.toList.drop (off + l.length * i.size + fm.length)).toArray) := by
   simp [Builtin.append_, aS ht, sizeOf, typeInfo, hi, I.len, G, I.cells, dz]
   simp only [gb] at aa
   rw [aa]
   simp
  refine .inl ⟨_, _, U _ _ M, h _ _ [(s, _)] (by simpa using L.store _) (.inr ⟨s, off, cap, _, by rw [aC], rfl, by simpa using G, h3, ?_, ?_⟩)⟩
  ·simp only [dw, aC, cU, fz, dt, n]
   rw [dB (by omega)]
   omega
  ·have hA : (p.toList.take (off + l.length * i.size)).length = off + l.length * i.size := by simp; omega
   show ((p.toList.take (off + l.length * i.size) ++ (fm ++ p.toList.drop (off + l.length * i.size + fm.length))).drop off).take ((l ++ m).length * i.size) = _
   rw [O, List.drop_append, gQ, hA, show off - (off + l.length * i.size) = 0 by omega, List.drop_zero, show off + l.length * i.size - off = l.length * i.size by omega, h5]
   rw [aC, cM, eQ, eQ, J, n, dA (by rw [J]; omega), show l.length * i.size + m.length * i.size - l.length * i.size = m.length * i.size by omega, dA (by rw [n]; omega)]
   simp
 ·have hold : (Builtin.firstCells i.size l.length (.slice (some ⟨s, off, none⟩) l.length cap)).run P W.drew = .ok ((l.map enc).flatten).toArray W.drew := by
   refine run_firstCells_some W.drew i.size l.length ⟨s, off, none⟩ l.length cap _ J (fun j u hu => ?_)
   rw [dz]
   show W.cell? ⟨s, off + j, none⟩ = some u
   rw [ft W s (off + j) p e (0, 0) hg]
   rw [← h5] at hu
   have hj : j < l.length * i.size := by have := (aW.1 hu).1; simp at this; omega
   rw [dq hj, dM] at hu
   simpa using hu
  have hlen : (l ++ m).length = l.length + m.length := aC
  have aj := ja W (l.length + m.length) cap e
  have ai := fQ W (l.length + m.length) cap e Z.2
  have M := run_append_grow_src (P := P) W t t ty e i z ht hi hz (some ⟨s, off, none⟩) l.length cap ((l.map enc).flatten) hold _ m.length _ I (by omega) (by have := Z.2; unfold maxLen at this; omega) (growslice_fits (by omega) (by rw [a8]; exact Z.1))
  have h6 := L.drew.alloc (.cells (((l.map enc).flatten ++ fm).toArray ++ Builtin.zeroCells z.cells (grownCap W (l.length + m.length) cap e - (l.length + m.length))) e (0, 0))
  have h7 := (ST.drop (A := (W.drew.heap.size, _) :: X) h6).perm (L' := X ++ ([(W.heap.size, _)] ++ Y)) (by simpa using (eE (a := (W.heap.size, _)) (l₁ := X) (l₂ := Y)).symm)
  refine .inl ⟨_, _, U _ _ M, h _ _ _ h7 (jL.RE (.inr ⟨W.heap.size, grownCap W (l.length + m.length) cap e, _, by rw [hlen], rfl, by rw [hlen]; exact aj, ai, ?_, ?_⟩))⟩
  ·rw [iq, gT, ab]
   simp only [dw, aC, J, n]
   rw [← cM, ← cM]
   congr 1
   omega
  ·rw [gJ, List.toList_toArray, hlen, O, List.take_append_of_le_length (by simp only [aC, J, n]; rw [cM]; exact aR _), dA (by simp only [aC, J, n]; rw [cM]; exact aR _)]
end
end Go.Proofs.YtjjjihkifgdhgaaGreatDoor
namespace Go.Proofs.YtjjjihkifgdhgaaGreatDoor
open Go.RowKit
variable [M : Md]
section
variable {P : Program} {ops : Array Oper} {Q : Exit → Act → World → Prop} {S : Array Bool → World → Prop}
def we (ops : Array Oper) (l : Array Bool) : Prop := ∀ j o, ops[j]? = some o → l.getD j true = true → ∀ e ∈ o.after, Region.binds .any e = true → l.getD e.on true = true
def Fu (ops : Array Oper) : Nat → List Nat → Bool
 | _, [] => true
 | j, k :: r => (match ops[j]? with | some o => o.after.any (fun e => Region.binds .any e && e.on == k) | none => false) && Fu ops k r
theorem Fa {l : Array Bool} (m : we ops l) : ∀ (r : List Nat) (j i : Nat), Fu ops j r = true → (j :: r).getLast? = some i → l.getD j true = true → l.getD i true = true
 | [], j, i, _, h, b => by simp at h; subst h; exact b
 | k :: r, j, i, h, q, b => by
  simp only [Fu, aQ] at h
  obtain ⟨h1, p⟩ := h
  cases d : ops[j]? with
  | none => rw [d] at h1; cases h1
  | some o =>
   rw [d] at h1
   simp only [Array.any_eq_true] at h1
   obtain ⟨n, s, h1⟩ := h1
   simp only [aQ, fR] at h1
   have := m j o d b o.after[n] (Array.getElem_mem s) h1.1
   rw [h1.2] at this
   exact Fa m r k i p (by simpa [List.getLast?_cons_cons] using q) this
def EN (ops : Array Oper) (i : Nat) (l : Array Bool) : Prop := we ops l ∧ l.getD i true = false
theorem EN.Cz {l : Array Bool} {i : Nat} (h : EN ops i l) (j : Nat) (r : List Nat) (b : Fu ops j r = true) (m : (j :: r).getLast? = some i) : l.getD j true = false := by
 cases d : l.getD j true with
 | false => rfl
 | true => have := Fa h.1 r j i b m d; rw [h.2] at this; cases this
theorem we.start (n : Nat) (h : n = ops.size) : we ops (Array.replicate n false) := by
 subst h
 intro j o i d
 have b : j < ops.size := (dv.1 i).1
 simp [b] at d
theorem we.set {l : Array Bool} {i : Nat} (h : we ops l) (t : i ∈ Region.ready .any ops l) : we ops (l.setIfInBounds i true) := by
 intro j o s r e he q
 have up : ∀ {k : Nat}, l.getD k true = true → (l.setIfInBounds i true).getD k true = true := fun {k} hk => by
  by_cases m : i = k
  ·subst m
   by_cases p : i < l.size
   ·simp [p]
   ·simp [p]
  ·rw [jc true m]; exact hk
 by_cases d : i = j
 ·subst d
  obtain ⟨_, u, n, b⟩ := ji.1 t
  rw [s] at n
  cases n
  refine up ?_
  have := b e he q
  by_cases p : e.on < l.size
  ·simp [p] at this ⊢; exact this
  ·simp [p]
 ·rw [jc true d] at r
  exact up (h j o s r e he q)
def Bt (P : Program) (ops : Array Oper) (S : Array Bool → World → Prop) (i : Nat) (o : Oper) (v : Value) (a : Act) : Prop :=
 (Region.wanted o (yielded ops a.tmps) = true ∧ ∀ l w, EN ops i l → S l w → (execOp a.eval o).run P w = .ok (.value v) w) ∨
 (Region.wanted o (yielded ops a.tmps) = false ∧ v = undef)
theorem Bt.RH {i : Nat} {o : Oper} {v : Value} {a : Act} {l : Array Bool} (h : Bt P ops S i o v a) (hp : EN ops i l) : YieldsIf P ops (S l) o v a :=
 h.imp (fun ⟨h1, b⟩ => ⟨h1, fun w hw => b l w hp hw⟩) id
def Ka (P : Program) (ops : Array Oper) (Q : Exit → Act → World → Prop) (S : Array Bool → World → Prop) : Nat → Array Bool → Act → World → Prop
 | 0, l, a, w => Region.ready .any ops l = [] ∧ Q .normal a w
 | n + 1, l, a, w => (Region.ready .any ops l = [] → Q .normal a w) ∧
  ∀ i ∈ Region.ready .any ops l, wpOp P ops Q i (fun d b => S (l.setIfInBounds i true) b ∧ Ka P ops Q S n (l.setIfInBounds i true) d b) a w
theorem Ju : ∀ (n : Nat) (l : Array Bool) (a : Act) (w : World), Ka P ops Q S n l a w → wpAny P .any ops Q n l a w
 | 0, _, _, _, h => h
 | n + 1, _, _, _, h => ⟨h.1, fun i j => wpOp_mono (fun b m d => Ju n _ b m d.2) (h.2 i j)⟩
theorem ME {i j : Nat} {d s : Oper} {v : Value} (y : ops[j]? = some s) (p : d.apart ops s = true) (q : ∀ cs b, d.op ≠ .select cs b) (r : ∀ cs b, s.op ≠ .select cs b) (x : ∀ c a w, Q (.panic c) (a.put d.dst v) w → Q (.panic c) a w) {K : Act → World → Prop} {a : Act} {w : World} (z : Bt P ops S i d v a) (h : wpOp P ops Q j K (a.put d.dst v) w) :
  wpOp P ops Q j (fun m u => Bt P ops S i d v m ∧ K (m.put d.dst v) u) a w := by
 have h1 : YieldsIf P ops (fun w => ∃ l, EN ops i l ∧ S l w) d v a := z.imp (fun ⟨h1, n⟩ => ⟨h1, fun w ⟨l, hp, hw⟩ => n l w hp hw⟩) id
 refine wpOp_mono (fun m u t => ⟨t.1.imp (fun ⟨h1, n⟩ => ⟨h1, fun l w hp hw => n w ⟨l, hp, hw⟩⟩) id, t.2⟩) (wpOp_putIf (S := fun w => ∃ l, EN ops i l ∧ S l w) y p q r x h1 h)
theorem Hd {i : Nat} {y : Oper} {v : Value} (W : ops[i]? = some y) (t : ∀ (j : Nat) (o : Oper) cs b, ops[j]? = some o → o.op ≠ .select cs b) (hQ : ∀ c a w, Q (.panic c) (a.put y.dst v) w → Q (.panic c) a w) (hm : ∀ l w, S (l.setIfInBounds i true) w → S l w) :
  ∀ (n : Nat) (l : Array Bool) (a : Act) (w : World), (∀ j z, ops[j]? = some z → j ≠ i → l.getD j true = false → (∀ e ∈ z.after, Region.binds .any e = true → e.on ≠ i) → y.apart ops z = true) →
   we ops l → i ∈ Region.ready .any ops l → Bt P ops S i y v a → S (l.setIfInBounds i true) w → Ka P ops Q S n (l.setIfInBounds i true) (a.put y.dst v) w → Ka P ops Q S (n + 1) l a w := by
 intro n
 induction n with
 | zero =>
  intro l a w _ M r O A H
  refine ⟨fun h => (by rw [h] at r; cases r), fun j G => ?_⟩
  by_cases d : j = i
  ·subst d
   exact (O.RH ⟨M, (ji.1 r).1⟩).wpOp W (hm l w A) ⟨A, H⟩
  ·have := ready_mono G d
   rw [H.1] at this
   cases this
 | succ n ih =>
  intro l a w p M r O A H
  refine ⟨fun h => (by rw [h] at r; cases r), fun j G => ?_⟩
  by_cases d : j = i
  ·subst d
   exact (O.RH ⟨M, (ji.1 r).1⟩).wpOp W (hm l w A) ⟨A, H⟩
  have h1 := H.2 j (ready_mono G d)
  obtain ⟨s, z, x, E⟩ := ji.1 G
  have J : ∀ e ∈ z.after, Region.binds .any e = true → e.on ≠ i := fun e he hb U => by
   have u := E e he hb
   have h0 := (ji.1 r).1
   rw [U] at u
   rcases Nat.lt_or_ge i l.size with R | R
   ·simp [R] at h0 u; rw [h0] at u; cases u
   ·simp [Array.getElem?_eq_none R] at u
  have u := ME x (p j z x d s J) (fun cs b => t i y cs b W) (fun cs b => t j z cs b x) hQ O h1
  have q : ∀ k ok, ops[k]? = some ok → k ≠ i → (l.setIfInBounds j true).getD k true = false → (∀ e ∈ ok.after, Region.binds .any e = true → e.on ≠ i) → y.apart ops ok = true := fun k ok hk Y L Z => by
   refine p k ok hk Y ?_ Z
   by_cases I : j = k
   ·subst I; exact s
   ·rw [jc true I] at L; exact L
  have m : (l.setIfInBounds i true).setIfInBounds j true = (l.setIfInBounds j true).setIfInBounds i true := Array.setIfInBounds_comm _ _ (Ne.symm d)
  refine wpOp_mono (fun a' w' T => ?_) u
  have h4 : S ((l.setIfInBounds j true).setIfInBounds i true) w' := by rw [← m]; exact T.2.1
  refine ⟨hm _ w' h4, ih (l.setIfInBounds j true) a' w' q (M.set G) (ready_mono r (Ne.symm d)) T.1 h4 ?_⟩
  rw [← m]
  exact T.2.2
end
theorem Rq {ro : Md} {P : Program} {o : Oper} {a : Act} {w : World} {K : Act → World → Prop} {Q : Exit → Act → World → Prop} (j : ∀ c, o.op ≠ .defer c) (h : o.wp P a w K Q) (m : ¬ LetsOut Q) : o.wpIn ro.F 0 P a w K Q := by
 refine ⟨fun _ _ => trivial, ?_⟩
 rw [Oper.semAt_eq _ _ _ j]
 unfold Oper.wp at h
 cases i : (execOp a.eval o).run P w with
 | ok x b =>
  rw [i] at h
  cases x with
  | value v => exact h
  | skip => exact h
  | defer d => exact h
  | enter f args => exact GD (cW h fun e l he => by cases e with
   | returned v => exact he
   | panicked c => exact he
   | outgrown => exact he)
  | row r args => exact ⟨fun e => (nomatch (show (none : Option Nat).isSome = true from e)), fun c cs _ => by
    obtain ⟨v, b, r, s⟩ := h c cs
    exact ⟨v, b, r, (stepsIn_wide (P := P)).2 s⟩⟩
  | _ => exact h.elim
 | halt z b =>
  rw [i] at h
  cases z with
  | panic v => exact h
  | _ => exact h.elim
def J7 (ops : Array Oper) : Prop := ∀ (i : Nat) (o : Oper), ops[i]? = some o → ∀ c, o.op ≠ .defer c
theorem BZ {ro : Md} {P : Program} {ops : Array Oper} {Q : Exit → Act → World → Prop} (j : J7 ops) (d : ¬ LetsOut Q) : ∀ (n : Nat) (l : Array Bool) (a : Act) (w : World), wpAny P .any ops Q n l a w → wpAnyIn ro.F 0 P .any ops Q n l a w
 | 0, _, _, _, h => h
 | n + 1, l, a, w, h => ⟨h.1, fun i p => by
  have b := h.2 i p
  unfold wpOp at b
  unfold wpOpIn
  cases m : ops[i]? with
  | none => rw [m] at b; exact BZ j d n _ a w b
  | some o =>
   rw [m] at b
   simp only at b ⊢
   split
   ·rename_i hw
    rw [aZ hw] at b
    rcases b with b | b
    ·exact Oper.wpIn_mono (fun a w h => BZ j d n _ a w h) (Rq (j i o m) b d)
    ·exact absurd b.2 d
   ·rename_i hw
    rw [aY hw] at b
    exact ⟨fun _ _ => trivial, BZ j d n _ _ w b⟩⟩
def Kx (l : List Oper) : Bool := l.all fun o => match o.op with
 | .defer _ => false
 | _ => true
theorem OM {l : List Oper} (h : Kx l = true) : J7 l.toArray := fun i o b c d => by
 have hm : o ∈ l := by
  rw [gr] at b
  exact cT b
 have := ei.1 h o hm
 rw [d] at this
 cases this
theorem P8 [M : Md] {n : Nat} {Q : pk} : ¬ LetsOut (lift n Q) := fun ⟨_, _, h⟩ => h
def PX (P : Program) (n : Nat) (ops : Array Oper) (Q : pk) (S : Array Bool → World → Prop) (fuel : Nat) (listed : Array Bool) (E : Nat → Value) (W : World) : Prop :=
 we ops listed → ∀ a, Ag n a E → Ka P ops (lift n Q) S fuel listed a W
section
variable {P : Program} {n : Nat} {Q : pk} {E : Nat → Value} {W : World} {ops : Array Oper} {S : Array Bool → World → Prop} {fuel : Nat} {listed : Array Bool}
theorem IA {id : Nat} {l : List Oper} (S : Array Bool → World → Prop) (hm : P.follows .mixedOrders = true) (h : PX P n l.toArray Q S l.length (Array.replicate l.length false) E W.drew) (b : Kx l = true) : CW P n (.region id l.toArray true) Q E W := fun a ha =>
 wpIn_region_any hm (BZ (OM b) P8 _ _ _ _ (Ju _ _ _ _ (h (we.start _ (by simp)) a ha)))
def AK (ops : Array Oper) (listed : Array Bool) (i : Nat) : Bool := Region.noSelect ops && Region.free .any ops listed i && (Region.ready .any ops listed).contains i
theorem kw {o : Oper} {dd : Nat} {v : Value} (i : Nat) (j : ops[i]? = some o) (hk : AK ops listed i = true) (hw : rf n ops E o) (q : o.dst = some dd) (r : dd < n) (hm : ∀ l w, S (l.setIfInBounds i true) w → S l w) (p : S (listed.setIfInBounds i true) W) (s : ∀ l W, EN ops i l → S l W → lu P E o W v W) (h : PX P n ops Q S fuel (listed.setIfInBounds i true) (nA E dd v) W) : PX P n ops Q S (fuel + 1) listed E W := fun d a ha => by
 simp only [AK, aQ] at hk
 have m : i ∈ Region.ready .any ops listed := by simpa using hk.2
 exact Hd j (Region.noSelect_spec hk.1.1) (fun _ _ _ h => Ic h) hm fuel listed a W (Region.free_spec j hk.1.2) d m (.inl ⟨hw.of ha, fun l w hp b => by rw [ha.eval]; exact s l w hp b⟩) p (by rw [q]; exact h (d.set m) _ (ha.put r v))
theorem pZ {A : Value → Prop} {o : Oper} {dd : Nat} (i : Nat) (m : ops[i]? = some o) (hk : AK ops listed i = true) (hw : rf n ops E o) (j : o.dst = some dd) (q : dd < n) (hm : ∀ l w, S (l.setIfInBounds i true) w → S l w) (d : S (listed.setIfInBounds i true) W) (r : ∃ p, A p ∧ ∀ W, lu P E o W p W) (h : ∀ p, A p → PX P n ops Q S fuel (listed.setIfInBounds i true) (nA E dd p) W) : PX P n ops Q S (fuel + 1) listed E W := by
 obtain ⟨p, h1, b⟩ := r
 exact kw i m hk hw j q hm d (fun _ W _ _ => b W) (h p h1)
theorem JS {o : Oper} {dd : Nat} (i : Nat) (d : ops[i]? = some o) (hk : AK ops listed i = true) (hw : ∀ a, Ag n a E → Region.wanted o (yielded ops a.tmps) = false) (p : o.dst = some dd) (q : dd < n) (hm : ∀ l w, S (l.setIfInBounds i true) w → S l w) (m : S (listed.setIfInBounds i true) W) (h : PX P n ops Q S fuel (listed.setIfInBounds i true) (nA E dd undef) W) : PX P n ops Q S (fuel + 1) listed E W := fun b a ha => by
 simp only [AK, aQ] at hk
 have j : i ∈ Region.ready .any ops listed := by simpa using hk.2
 exact Hd d (Region.noSelect_spec hk.1.1) (fun _ _ _ h => Ic h) hm fuel listed a W (Region.free_spec d hk.1.2) b j (.inr ⟨hw a ha, rfl⟩) m (by rw [p]; exact h (b.set j) _ (ha.put q _))
theorem Rj {o : Oper} {dd j t : Nat} {want : Bool} (i : Nat) (q : ops[i]? = some o) (hk : AK ops listed i = true) (p : o.guard = some (j, want)) (r : (ops[j]?).bind (·.dst) = some t) (u : t < n) (b : E t = .bool (!want)) (m : o.dst = some dd) (s : dd < n) (hm : ∀ l w, S (l.setIfInBounds i true) w → S l w) (d : S (listed.setIfInBounds i true) W) (h : PX P n ops Q S fuel (listed.setIfInBounds i true) (nA E dd undef) W) : PX P n ops Q S (fuel + 1) listed E W :=
 JS i q hk (fun a ha => by have v := ha.yield r u b; simp [Region.wanted, p, v]) m s hm d h
theorem PD {o : Oper} {dd j t : Nat} {want : Bool} (i : Nat) (q : ops[i]? = some o) (hk : AK ops listed i = true) (p : o.guard = some (j, want)) (r : (ops[j]?).bind (·.dst) = some t) (u : t < n) (b : E t = undef) (m : o.dst = some dd) (s : dd < n) (hm : ∀ l w, S (l.setIfInBounds i true) w → S l w) (d : S (listed.setIfInBounds i true) W) (h : PX P n ops Q S fuel (listed.setIfInBounds i true) (nA E dd undef) W) : PX P n ops Q S (fuel + 1) listed E W :=
 JS i q hk (fun a ha => by have v := ha.Kp r u b; simp [Region.wanted, p, v]) m s hm d h
theorem PO {o : Oper} {dd : Nat} (i : Nat) (u : ops[i]? = some o) (l : Region.ready .any ops listed = [i]) (hw : rf n ops E o) (p : o.dst = some dd) (q : dd < n) (h : mD P E o W fun v W' => S (listed.setIfInBounds i true) W' ∧ PX P n ops Q S fuel (listed.setIfInBounds i true) (nA E dd v) W') : PX P n ops Q S (fuel + 1) listed E W := fun m a ha => by
 have b : i ∈ Region.ready .any ops listed := by rw [l]; simp
 refine ⟨fun t => (by rw [t] at l; cases l), fun j r => ?_⟩
 rw [l] at r
 obtain rfl := bK.1 r
 unfold wpOp
 simp only [u]
 rw [aZ (hw.of ha)]
 refine .inl ?_
 unfold Oper.wp
 rw [ha.eval]
 rcases h with ⟨v, W', h1, d⟩ | ⟨W', h1, d⟩ | ⟨f, args, h1, d⟩
 ·rw [h1, iW]; exact ⟨d.1, by rw [p]; exact d.2 (m.set b) _ (ha.put q v)⟩
 ·rw [h1, Oper.upon_skip]; exact ⟨d.1, by rw [p]; exact d.2 (m.set b) _ (ha.put q _)⟩
 ·rw [h1, iX]
  refine cW d ?_
  rintro e w ⟨v, rfl, s⟩
  exact ⟨s.1, by simp only [p]; exact s.2 (m.set b) _ (ha.put q v)⟩
theorem QY {o : Oper} (i : Nat) (t : ops[i]? = some o) (l : Region.ready .any ops listed = [i]) (hw : rf n ops E o) (p : o.dst = none) (h : mD P E o W fun _ W' => S (listed.setIfInBounds i true) W' ∧ PX P n ops Q S fuel (listed.setIfInBounds i true) E W') : PX P n ops Q S (fuel + 1) listed E W := fun m a ha => by
 have b : i ∈ Region.ready .any ops listed := by rw [l]; simp
 refine ⟨fun s => (by rw [s] at l; cases l), fun j q => ?_⟩
 rw [l] at q
 obtain rfl := bK.1 q
 unfold wpOp
 simp only [t]
 rw [aZ (hw.of ha)]
 refine .inl ?_
 unfold Oper.wp
 rw [ha.eval]
 rcases h with ⟨v, W', h1, d⟩ | ⟨W', h1, d⟩ | ⟨f, args, h1, d⟩
 ·rw [h1, iW, p]; exact ⟨d.1, d.2 (m.set b) _ (ha.xZ _)⟩
 ·rw [h1, Oper.upon_skip, p]; exact ⟨d.1, d.2 (m.set b) _ (ha.xZ _)⟩
 ·rw [h1, iX]
  refine cW d ?_
  rintro e u ⟨v, rfl, r⟩
  simp only [p]
  exact ⟨r.1, r.2 (m.set b) _ (ha.xZ _)⟩
theorem kO (d : Region.ready .any ops listed = []) (h : Q .normal E W) : PX P n ops Q S fuel listed E W := fun _ a ha => by
 cases fuel with
 | zero => exact ⟨d, E, ha, h⟩
 | succ f => exact ⟨fun _ => ⟨E, ha, h⟩, fun i b => by rw [d] at b; cases b⟩
theorem yI {p : Prop} {b : Bool} (d : b = true) (h : b = false) : p := by rw [d] at h; cases h
theorem og {b : Array Bool} (d : listed = b) (h : PX P n ops Q S fuel b E W) : PX P n ops Q S fuel listed E W := by rw [d]; exact h
theorem Fp {o s : Oper} {d t : Nat} (i j : Nat) (L : ops[i]? = some o) (M : ops[j]? = some s) (r : Region.ready .any ops listed = [i, j]) (hw : rf n ops E o) (y : rf n ops E s) (m : o.dst = some d) (w : s.dst = some t) (p : d < n) (x : t < n) (h : mD P E o W fun v W' => S (listed.setIfInBounds i true) W' ∧ PX P n ops Q S fuel (listed.setIfInBounds i true) (nA E d v) W') (I : mD P E s W fun v W' => S (listed.setIfInBounds j true) W' ∧ PX P n ops Q S fuel (listed.setIfInBounds j true) (nA E t v) W') : PX P n ops Q S (fuel + 1) listed E W := fun u a ha => by
 have key : ∀ (k : Nat) (q : Oper) (e : Nat), ops[k]? = some q → k ∈ Region.ready .any ops listed → rf n ops E q → q.dst = some e → e < n → (mD P E q W fun v W' => S (listed.setIfInBounds k true) W' ∧ PX P n ops Q S fuel (listed.setIfInBounds k true) (nA E e v) W') →
   wpOp P ops (lift n Q) k (fun G z => S (listed.setIfInBounds k true) z ∧ Ka P ops (lift n Q) S fuel (listed.setIfInBounds k true) G z) a W := by
  intro k q e hk b hw m p h
  unfold wpOp
  simp only [hk]
  rw [aZ (hw.of ha)]
  refine .inl ?_
  unfold Oper.wp
  rw [ha.eval]
  rcases h with ⟨v, W', h1, l⟩ | ⟨W', h1, l⟩ | ⟨f, args, h1, l⟩
  ·rw [h1, iW]; exact ⟨l.1, by rw [m]; exact l.2 (u.set b) _ (ha.put p v)⟩
  ·rw [h1, Oper.upon_skip]; exact ⟨l.1, by rw [m]; exact l.2 (u.set b) _ (ha.put p _)⟩
  ·rw [h1, iX]
   refine cW l ?_
   rintro e z ⟨v, rfl, A⟩
   exact ⟨A.1, by simp only [m]; exact A.2 (u.set b) _ (ha.put p v)⟩
 refine ⟨fun J => (by rw [J] at r; cases r), fun k hk => ?_⟩
 rw [r] at hk
 rcases aK.1 hk with rfl | hk
 ·exact key _ o d L (by rw [r]; simp) hw m p h
 ·obtain rfl := bK.1 hk
  exact key _ s t M (by rw [r]; simp) y w x I
theorem kU {l : Array Bool} {i j : Nat} {A : Prop} (b : Nat.beq i j = false) (h : (l.setIfInBounds i true).getD j true = false → A) : l.getD j true = false → A := fun d => h (by
 rw [jc true (fun e => by subst e; simp at b)]; exact d)
end
theorem yy.at {α : Type} {e : TypeId} {enc : α → List Value} {k : Nat} {v : Value} {l : List α} {R : List (Nat × Obj)} (h : jL e enc k v l R) (hk : ∀ x, (enc x).length = k) {p : Value} {i : Nat} (hp : yy R k p i) {x : α} (m : l[i]? = some x) : At (Bf R) p (enc x) := by
 obtain ⟨d, b, cap, rfl, rfl, _, _, _, _, rfl, j⟩ := zB h hk hp m
 exact ⟨d, i * k, b, e, (0, 0), rfl, by simp [Bf], j⟩
theorem uL.form {κ β : Type} {kenc : κ → Value} {vf : β → Value} {μ : jN} {v : Value} {l : List (κ × β)} (h : uL kenc vf μ v l) : ∃ r, v = .map r := by
 rcases h with ⟨h, _⟩ | ⟨m, es, clock, h, _⟩
 ·exact ⟨_, h⟩
 ·exact ⟨_, h⟩
noncomputable def E4 {β : Type} (l : List (ByteArray × β)) : Option (List ByteArray) :=
 open Classical in if (l.map (·.1)).Nodup ∧ (∀ p ∈ l, p.1.size ≤ maxLen) ∧ l.length * 16 ≤ 140737488355328 then some (tz (l.map (·.1))) else none
def Mq {κ κ2 β α : Type} (b : Nat) (mk : κ → κ2 → α) (l : List (κ × List (κ2 × β))) : Option (List α) :=
 if (l.flatMap (fun p => p.2.map (fun q => mk p.1 q.1))).length * b ≤ 140737488355328 ∧ (l.flatMap (fun p => p.2.map (fun q => mk p.1 q.1))).length ≤ maxLen then some (l.flatMap (fun p => p.2.map (fun q => mk p.1 q.1))) else none
end Go.Proofs.YtjjjihkifgdhgaaGreatDoor
namespace Go.Proofs.YtjjjihkifgdhgaaGreatDoor
open Go.RowKit
variable [M : Md]
section
variable {P : Program} {n : Nat} {Q : pk} {E : Nat → Value} {W : World} {ops : Array Oper} {rest : List Oper}
variable {dd : Bool} {α : Type} {enc : α → List Value} {k : Nat} {μ : jN} {v : Value}
variable {d : Option Nat} {ty : TypeId} {pos : String} {af : Array Edge} {g : Option (Nat × Bool)} {F : Nat → Prop} {w : World} {L : List (Nat × Obj)}
def Dj (enc : α → List Value) (k : Nat) : oP (List α) := fun μ ys x => ∃ v, ys = [v] ∧ Sl (Pl enc) k μ v x
theorem Dj.mono (enc : α → List Value) (k : Nat) : Fb (Dj enc k) := fun _ _ _ _ d ⟨v, h1, b⟩ => ⟨v, h1, b.mono (Pl.mono _) d⟩
inductive Ap (enc : α → List Value) (k : Nat) (μ : jN) : List Value → List (List α) → Prop
 | nil : Ap enc k μ [] []
 | cons {v : Value} {x : List α} {vs : List Value} {l : List (List α)} : Sl (Pl enc) k μ v x → Ap enc k μ vs l → Ap enc k μ (v :: vs) (x :: l)
theorem Ap.length {vs : List Value} {l : List (List α)} (h : Ap enc k μ vs l) : vs.length = l.length := by
 induction h with
 | nil => rfl
 | cons _ _ ih => simp [ih]
theorem Ap.get {vs : List Value} {l : List (List α)} (h : Ap enc k μ vs l) : ∀ (i : Nat) (x : List α), l[i]? = some x → ∃ v, vs[i]? = some v ∧ Sl (Pl enc) k μ v x := by
 induction h with
 | nil => intro i x b; simp at b
 | cons h1 _ ih =>
  intro i x b
  cases i with
  | zero => simp at b; subst b; exact ⟨_, rfl, h1⟩
  | succ i => simpa using ih i x (by simpa using b)
theorem Dj.lit {b m : Nat} {vs : List Value} {e : TypeId} {l : List (List α)} (hm : l.length = m) (p : m ≤ maxLen) (q : μ b = some (.cells vs.toArray e (0, 0))) (h : Ap enc k μ vs l) : Sl (Dj enc k) 1 μ (.slice (some ⟨b, 0, none⟩) m m) l := by
 subst hm
 refine ⟨_, _, rfl, aR _, p, fun _ => ⟨b, 0, _, _, _, rfl, q, fun i x r => ?_⟩⟩
 obtain ⟨v, h1, n⟩ := h.get i x r
 refine ⟨[v], rfl, ⟨v, rfl, n⟩, fun j y d => ?_⟩
 cases j with
 | zero => simp at d; subst d; simpa using h1
 | succ j => simp at d
theorem EG {k2 : Nat} {t e : TypeId} {x b : Operand} {z : IntKind} {i : Int} {l : List (List α)} {x0 : List α} (u : P.underlying t = some (.slice e)) (he : ∀ w, (sizeOf e).run P w = .ok 1 w) (y : jv E x = v) (q : jv E b = .int z i) (s : Sl (Dj enc k2) 1 μ v l) (h : 0 ≤ i) (r : l[i.toNat]? = some x0) :
  ∃ p, (∃ v0, At μ p [v0] ∧ Sl (Pl enc) k2 μ v0 x0) ∧ ∀ W, lu P E ⟨d, .indexAddr t x b, ty, pos, af, g⟩ W p W := by
 obtain ⟨p, ys, h1, ⟨v0, rfl, j⟩, m, n⟩ := GG (d := d) (ty := ty) (pos := pos) (af := af) (g := g) u he y q s h r
 exact ⟨p, ⟨v0, m, j⟩, n⟩
theorem Iw {x : Operand} {t e : TypeId} (b : P.underlying t = some (.slice e)) (h : jv E x = .slice none 0 0) : lu P E ⟨d, .call ⟨.builtin .cap, #[x], #[t]⟩, ty, pos, af, g⟩ W (.int .i64 0) W := by
 show (do let d ← resolve (jv E) ⟨.builtin .cap, #[x], #[t]⟩ ty; invoke d.target d.args : Sem Next).run P W = _
 simp [resolve, invoke, builtin, Builtin.cap_, aS b, h, goInt]
theorem Qs {x y : Operand} {ats : Array TypeId} {k : IntKind} {a b : Int} (h : jv E x = .int k a) (i : jv E y = .int k b) :
  lu P E ⟨d, .call ⟨.builtin .max, #[x, y], ats⟩, ty, pos, af, g⟩ W (.int k (if b > a then b else a)) W := by
 show (do let d ← resolve (jv E) ⟨.builtin .max, #[x, y], ats⟩ ty; invoke d.target d.args : Sem Next).run P W = _
 simp [resolve, invoke, h, i, builtin, Builtin.max_, Builtin.max2]
theorem Lj {t e : TypeId} {x ih : Operand} {j : IntKind} (h : P.underlying t = some (.slice e)) (he : ∀ w, (sizeOf e).run P w = .ok k w) (i : jv E x = .slice none 0 0) (b : jv E ih = .int j 0) :
  lu P E ⟨d, .slice t x none (some ih) none, ty, pos, af, g⟩ W (.slice none 0 0) W := by
 show (do pure (.value (← Instr.sliceAt t (jv E x) none (some (jv E ih)) none)) : Sem Next).run P W = _
 rw [i, b]
 simp [Instr.sliceAt, Instr.slice, Instr.sliceBounds, Instr.sliceBound, asIntOf, aS h, he W]
def F4 {α : Type} (b : Nat) (z : α) (n : Int) : Option (List α) := if 0 < n ∧ n * b ≤ 140737488355328 ∧ n ≤ (maxLen : Int) then some (List.replicate n.toNat z) else none
theorem EZ (t q ty e : TypeId) (i : TypeInfo) (z : Value) (y : P.underlying t = some (.slice e)) (p : P.underlying q = some (.int .i64)) (u : P.info? e = some i) (A : i.zero = some z) (n : Nat) (r : 0 < n) (x : 0 < i.size) (s : n ≤ 9223372036854775807) (j : n * i.bytes ≤ 140737488355328) (W : World) :
  (Builtin.append_ #[t, q] ty #[.slice none 0 0, .int .i64 (n : Int)]).run P W =
   .ok (.slice (some ⟨W.heap.size, 0, none⟩) n (grownCap W n 0 e)) (W.drew.alloc (.cells (Builtin.zeroCells z.cells n ++ Builtin.zeroCells z.cells (grownCap W n 0 e - n)) e)) := by
 have hw : IntKind.i64.wrap (n : Int) = (n : Int) := by unfold IntKind.wrap; simp [IntKind.bits, IntKind.signed]; omega
 have h1 : ¬ ((n : Int) < 0) := by omega
 have b : ¬ (281474976710656 < (n : Int) * i.bytes) := by
  have := Int.ofNat_le.2 j
  rw [Int.natCast_mul] at this
  omega
 have l : ¬ (n * i.size = 0) := fun h => by rcases Nat.mul_eq_zero.1 h with h | h <;> omega
 have v : n ≠ 0 := by omega
 have w : i.size ≠ 0 := by omega
 have d : ¬ (9223372036854775807 < (n : Int)) := by omega
 have m : ¬ (281474976710656 < Builtin.nextslicecap n 0 * i.bytes) := by rw [nextslicecap_zero r]; omega
 simp [Builtin.append_, aS y, aS p, sizeOf, typeInfo, zeroValue, u, A, asInt, asIntOf, hw, h1, b, v, d, m, Question.forced, run_firstCells_none, newRow, grownCap]
 exact fun h => absurd h l
theorem HX {K : Value → World → Prop} {α : Type} {e t G : TypeId} {enc : α → List Value} {k s : Nat} {l : Value} {n : Int} {z : α} {r : List α} (X : List (Nat × Obj)) {Y : List (Nat × Obj)} {x y : Operand} {i : TypeInfo} (p : ST dd F w W μ (X ++ Y)) (hk : ∀ x, (enc x).length = k) (U : 0 < k) (ht : P.underlying t = some (.slice e)) (a6 : P.underlying G = some (.int .i64)) (hi : P.info? e = some i) (hz : i.zero = some l) (a1 : i.size = k) (O : i.bytes = s) (hc : l.cells = (enc z).toArray) (hx : jv E x = .slice none 0 0) (hy : jv E y = .int .i64 n) (j : F4 s z n = some r) (h : ∀ W' v' R', ST dd F w W' μ (X ++ (R' ++ Y)) → jL e enc k v' r R' → K v' W') : mD P E ⟨d, .call ⟨.builtin .append, #[x, y], #[t, G]⟩, ty, pos, af, g⟩ W K := by
 unfold F4 at j
 split at j
 case isFalse => cases j
 rename_i M
 cases j
 obtain ⟨n, rfl⟩ : ∃ m : Nat, n = (m : Int) := ⟨n.toNat, by omega⟩
 have Z : 0 < n := by omega
 subst a1; subst O
 have hM : n ≤ maxLen := by omega
 have L : n ≤ 9223372036854775807 := by simp only [maxLen] at hM; omega
 have J : n * i.bytes ≤ 140737488355328 := Int.ofNat_le.1 (by rw [Int.natCast_mul]; exact M.2.1)
 have hr := EZ (P := P) t G ty e i l ht a6 hi hz n Z U L J W
 have v : (execOp (jv E) ⟨d, .call ⟨.builtin .append, #[x, y], #[t, G]⟩, ty, pos, af, g⟩).run P W = .ok (.value (.slice (some ⟨W.heap.size, 0, none⟩) n (grownCap W n 0 e))) (W.drew.alloc (.cells (Builtin.zeroCells l.cells n ++ Builtin.zeroCells l.cells (grownCap W n 0 e - n)) e)) := by
  show (do let d ← resolve (jv E) ⟨.builtin .append, #[x, y], #[t, G]⟩ ty; invoke d.target d.args : Sem Next).run P W = _
  simp [resolve, invoke, builtin, hx, hy, hr]
 have R := nC _ _ _ _ hr
 refine .inl ⟨_, _, v, ?_⟩
 have T := ja W n 0 e
 have Q : grownCap W n 0 e ≤ maxLen := fQ W n 0 e hM
 have a7 : ∀ m, (Builtin.zeroCells l.cells m).toList = (List.replicate m (enc z)).flatten := fun m => by rw [hc, Bs]
 have A : l.cells.size = i.size := by rw [hc, dw, hk]
 have q : jL e enc i.size (.slice (some ⟨W.heap.size, 0, none⟩) n (grownCap W n 0 e)) (List.replicate n z) [(W.heap.size, .cells (Builtin.zeroCells l.cells n ++ Builtin.zeroCells l.cells (grownCap W n 0 e - n)) e (0, 0))] := by
  refine .inr ⟨W.heap.size, grownCap W n 0 e, _, by rw [List.length_replicate], rfl, by simpa using T, Q, ?_, ?_⟩
  ·simp only [iq, gT, A, ← cM]
   congr 1
   omega
  ·have I : (Builtin.zeroCells l.cells n).toList.length = n * i.size := by rw [dt, gT, A]
   rw [List.length_replicate, gJ, ← I, gi, a7, gS]
 refine h _ _ _ ?_ q
 have hex : Ex dd W (W.drew.alloc (.cells (Builtin.zeroCells l.cells n ++ Builtin.zeroCells l.cells (grownCap W n 0 e - n)) e)) := ⟨rfl, rfl, rfl, ry.of R, by simp, fun b j => heap_alloc_old W.drew _ j⟩
 have h1 := p.Fg hex
 have u := h1.nd
 refine ⟨h1.os, h1.tape, h1.output, h1.drawn, h1.size, h1.lF, h1.mem, fun b o j => ?_, ?_⟩
 ·simp only [aN, bK] at j
  rcases j with j | j | j
  ·exact h1.box b o (by simp [j])
  ·cases j
   refine ⟨heap_alloc_new W.drew _, ?_, .inl p.size⟩
   cases hm : μ W.heap.size with
   | none => rfl
   | some x => have := p.BV hm; omega
  ·exact h1.box b o (by simp [j])
 ·simp only [bY, bF, ez, fi] at u ⊢
  refine (fF eE).2 (cY.2 ⟨fun hm => ?_, u⟩)
  rw [← bY] at hm
  obtain ⟨⟨b, o⟩, j, I⟩ := bH.1 hm
  have := p.CQ j
  simp at I
  omega
end
end Go.Proofs.YtjjjihkifgdhgaaGreatDoor
namespace Go.Proofs.YtjjjihkifgdhgaaGreatDoor
open Go.RowKit
variable {dd : Bool}
section
variable {P : Program} {fn : Func} {R : Ending → World → Prop} {E : Nat → Value} {W : World}
theorem uw {b : Tmp} {t0 : TypeId} {a0 : Addr} {v0 : Value} {d : Tmp} {v1 : Value} (j : fn.results = #[.cell b t0, .tmp d]) (i : E b = .pointer (some a0)) (m : (Instr.loadAt t0 (.pointer (some a0))).run P W = .ok v0 W) (h1 : E d = v1) (h : R (.returned (.tuple #[v0, v1])) W) : vM P fn R .ret E W :=
 ⟨.tuple #[v0, v1], fun tmps l => by
  have n : (loadVar t0 a0).run P W = .ok v0 W := by simpa [Instr.loadAt, Instr.sureAddr] using m
  simp [results, j, l, asAddr, i, n, h1], h⟩
theorem NH {b : Tmp} {v0 : Value} {d : Tmp} {v1 : Value} {i : Tmp} {v2 : Value} (m : fn.results = #[.tmp b, .tmp d, .tmp i]) (j : E b = v0) (h1 : E d = v1) (l : E i = v2) (h : R (.returned (.tuple #[v0, v1, v2])) W) : vM P fn R .ret E W :=
 ⟨.tuple #[v0, v1, v2], fun tmps n => by
  skip
  simp [results, m, n, asAddr, j, h1, l], h⟩
end
end Go.Proofs.YtjjjihkifgdhgaaGreatDoor
namespace Go.Proofs.YtjjjihkifgdhgaaGreatDoor
open Go.RowKit
variable [M : Md]
section
variable {x y : Nat × Obj} {A B C L R S : List (Nat × Obj)}
theorem Pz : (x :: A).Perm (x :: A) := .refl _
theorem Pb (h : A.Perm (x :: B)) : (y :: A).Perm (x :: y :: B) := (h.cons y).trans (.swap ..)
theorem Pr (h : A.Perm (x :: B)) : (S ++ A).Perm (x :: (S ++ B)) := (h.append_left S).trans eE
theorem Qz : (R ++ A).Perm (R ++ A) := .refl _
theorem Qb (h : A.Perm (R ++ B)) : (y :: A).Perm (R ++ (y :: B)) := (h.cons y).trans List.perm_middle.symm
theorem Qr (h : A.Perm (R ++ B)) : (S ++ A).Perm (R ++ (S ++ B)) := (h.append_left S).trans (fp S R B)
def mJ (L L' : List (Nat × Obj)) : Prop := ∃ M, L.Perm (L' ++ M)
theorem Sn : mJ L [] := ⟨L, .refl _⟩
theorem St : mJ L L := ⟨[], by rw [bo]⟩
theorem Sb (h : L.Perm (x :: A)) (k : mJ A B) : mJ L (x :: B) := let ⟨M, m⟩ := k; ⟨M, h.trans (m.cons x)⟩
theorem Sr (h : L.Perm (R ++ A)) (k : mJ A B) : mJ L (R ++ B) := let ⟨M, m⟩ := k; ⟨M, by rw [aI]; exact h.trans (m.append_left R)⟩
theorem Kb (k : mJ A B) : mJ (x :: A) (x :: B) := Sb Pz k
theorem Kr (k : mJ A B) : mJ (R ++ A) (R ++ B) := Sr Qz k
theorem Db (k : mJ A B) : mJ (x :: A) B := let ⟨M, m⟩ := k; ⟨x :: M, (m.cons x).trans List.perm_middle.symm⟩
theorem Dr (k : mJ A B) : mJ (R ++ A) B := let ⟨M, m⟩ := k; ⟨R ++ M, (m.append_left R).trans (fp R B M)⟩
theorem mJ.mem (s : mJ L A) : ∀ p, p ∈ A → p ∈ L := fun p hp => let ⟨M, m⟩ := s; m.mem_iff.2 (cC _ hp)
theorem ST.jr {dd : Bool} {F : Nat → Prop} {w W : World} {μ : jN} (h : ST dd F w W μ L) (s : mJ L A) : ST dd F w W μ A := let ⟨M, m⟩ := s; (h.perm m).sublist (List.sublist_append_left A M)
theorem nc.jr {μ : jN} {W : World} (h : nc μ L W) (s : mJ L A) : nc μ A W := h.sub (jT.refl _) s.mem
theorem nc.rY {μ μ' : jN} {W : World} (h : nc μ L W) (b : jT μ' μ) (s : mJ L A) : nc μ' A W := h.sub b s.mem
theorem Cn : L.Perm ([] ++ L) := .refl _
theorem Cb (h : L.Perm (x :: A)) (k : A.Perm (B ++ C)) : L.Perm ((x :: B) ++ C) := h.trans (k.cons x)
theorem Cr (h : L.Perm (R ++ A)) (k : A.Perm (B ++ C)) : L.Perm ((R ++ B) ++ C) := by rw [aI]; exact h.trans (k.append_left R)
theorem C0 (k : L.Perm (B ++ C)) : L.Perm (([] ++ B) ++ C) := k
theorem Tn : ([] ++ A).Perm A := .refl _
theorem Tb (h : (A ++ B).Perm C) : ((x :: A) ++ B).Perm (x :: C) := h.cons x
theorem Tr (h : (A ++ B).Perm C) : ((R ++ A) ++ B).Perm (R ++ C) := by rw [aI]; exact h.append_left R
theorem Nb (h : L.Perm (x :: A)) (k : A.Perm B) : L.Perm (x :: B) := h.trans (k.cons x)
theorem Nr (h : L.Perm (R ++ A)) (k : A.Perm B) : L.Perm (R ++ B) := h.trans (k.append_left R)
theorem Nz : L.Perm L := .refl _
theorem Sh {R' R1 : List (Nat × Obj)} (hp : R.Perm (R' ++ R1)) : (R ++ A).Perm (R' ++ (R1 ++ A)) := by rw [← aI]; exact hp.append_right A
theorem Mh : x ∈ x :: A := .head _
theorem Mt (h : x ∈ A) : x ∈ y :: A := .tail _ h
theorem Ma (h : x ∈ A) : x ∈ R ++ A := dO _ h
theorem Ml (h : x ∈ R) : x ∈ R ++ A := cC _ h
end
section
variable {dd : Bool} {F : Nat → Prop} {w W : World} {μ : jN} {L L0 L1 Y R : List (Nat × Obj)}
theorem ST.LZ (h : ST dd lB w W μ L) (s : mJ L L1) : si dd [] L1 w W := let ⟨_, m⟩ := s; (h.perm m).Q0
theorem ST.mn (h : ST dd (keys L0) w W μ L) (s : mJ L L1) : si dd L0 L1 w W := let ⟨_, m⟩ := s; (h.perm m).Q6
theorem ST.HT : ∀ {R : List (Nat × Obj)} {μ : jN}, ST dd F w W μ (R ++ Y) → ∃ μ', ST dd F w W μ' Y ∧ jT μ μ' ∧ Lo F w μ μ' ∧ ∀ b o, (b, o) ∈ R → μ' b = some o
 | [], μ, h => ⟨μ, h, jT.refl _, Lo.refl, fun _ _ h => by cases h⟩
 | (g, o) :: R, μ, h => by
  have i : ST dd F w W μ ([] ++ (g, o) :: (R ++ Y)) := h
  obtain ⟨μ', j, a2, a3, a4⟩ := ST.HT (R := R) (ST.GF (A := []) i)
  refine ⟨μ', j, (ST.Gj (A := []) i).trans a2, (ST.Mv (A := []) i).trans a3, fun b l d => ?_⟩
  rcases aK.1 d with d | d
  ·cases d; exact a2 _ _ (aZ rfl)
  ·exact a4 b l d
theorem ST.KC {α : Type} {e' : TypeId} {enc : α → List Value} {k : Nat} {v : Value} {l : List α} (b : ST dd F w W μ (R ++ Y)) (h : jL e' enc k v l R) (hk : ∀ x, (enc x).length = k) : ∃ μ', ST dd F w W μ' Y ∧ jT μ μ' ∧ Lo F w μ μ' ∧ Sl (Pl enc) k μ' v l := by
 obtain ⟨μ', d, a2, a3, a4⟩ := ST.HT b
 exact ⟨μ', d, a2, a3, h.sl hk a4⟩
section
variable {P : Program} {n : Nat} {Q : pk} {E : Nat → Value} {V : World} {id : Nat} {l : List Oper} {A B C : List (Nat × Obj)}
theorem kG (d : nc μ A V.drew) (hm : P.follows .mixedOrders = true) (h : PX P n l.toArray Q (fun _ W => nc μ A W) l.length (Array.replicate l.length false) E V.drew) (b : Kx l = true := by kernel_rfl) : CW P n (.region id l.toArray true) Q E V := IA _ hm h b
theorem tN (i : Nat) (d : nc μ A V.drew) (h1 : nc μ B V.drew) (hm : P.follows .mixedOrders = true) (h : PX P n l.toArray Q (fun l W => nc μ A W ∧ (l.getD i true = false → nc μ B W)) l.length (Array.replicate l.length false) E V.drew) (b : Kx l = true := by kernel_rfl) : CW P n (.region id l.toArray true) Q E V := IA _ hm h b
end
structure nD (μ : jN) (L0 : List (Nat × Obj)) (w : World) : Prop where
 H : Dv L0 w
 N : (L0.map (·.1)).Nodup
 S : jT μ (sR w L0)
theorem ST.FW (h : nD μ L0 w) : ST dd (keys L0) w w μ L0 := (ST.Qc h.H h.N).lX h.S
end
section
variable {dd : Bool} {P : Program} {E : Nat → Value} {W : World} {d : Option Nat} {ty : TypeId} {pos : String} {af : Array Edge} {g : Option (Nat × Bool)} {F : Nat → Prop} {w : World} {μ : jN} {L : List (Nat × Obj)}
theorem jM {K : Value → World → Prop} {B : List (Nat × Obj)} {t : TypeId} {x y : Operand} (v : Value) {b off : Nat} {cs : Array Value} {T : TypeId} (i : Array Value) (j : ST dd F w W μ ((b, .cells cs T (0, 0)) :: B)) (p : jv E x = .pointer (some ⟨b, off, none⟩)) (q : jv E y = v) (l : ∀ w, (sizeOf t).run P w = .ok v.cells.size w) (h1 : ∀ u ∈ v.cells.toList, u.oneCell' = true) (n : off + v.cells.size ≤ cs.size) (m : (cs.toList.take off ++ v.cells.toList ++ cs.toList.drop (off + v.cells.size)).toArray = i) (h : ∀ W', ST dd F w W' μ ((b, .cells i T (0, 0)) :: B) → K undef W') : mD P E ⟨d, .store t x y, ty, pos, af, g⟩ W K := ON [] v i j p q l h1 n m h
end
section
variable {dd : Bool}
variable {P : Program} {n : Nat} {Q : pk} {E : Nat → Value} {W : World} {ops : Array Oper} {rest : List Oper}
 {d : Option Nat} {ty : TypeId} {pos : String} {af : Array Edge} {g : Option (Nat × Bool)}
 {F : Nat → Prop} {w : World} {μ : jN} {L : List (Nat × Obj)}
theorem oh {K : Value → World → Prop} {α : Type} {e t : TypeId} {enc : α → List Value} {k b : Nat} {z v vs : Value} {l m r : List α} {R Y : List (Nat × Obj)} {x y : Operand} {i : TypeInfo} (j : ST dd F w W μ (R ++ Y)) (hk : ∀ x, (enc x).length = k) (p : 0 < k) (h1 : ∀ x, ∀ u ∈ enc x, u.oneCell' = true) (M : P.underlying t = some (.slice e)) (J : P.info? e = some i) (T : i.zero = some z) (s : z.cells.size = k) (q : i.size = k) (n : i.bytes = b) (O : jv E x = v) (Q : jv E y = vs) (G : jL e enc k v l R) (L : Sl (Pl enc) k (hp W) vs m) (I : lC b l m = some r) (h : ∀ W' A R', ST dd F w W' μ (R' ++ Y) → jL e enc k A r R' → K A W') : mD P E ⟨d, .call ⟨.builtin .append, #[x, y], #[t, t]⟩, ty, pos, af, g⟩ W K :=
 Ib [] j hk p h1 M J T s q n O Q G L I h
end
section
variable {dd : Bool}
variable {P : Program} {E : Nat → Value} {W : World} {d : Option Nat} {ty : TypeId} {pos : String} {af : Array Edge} {g : Option (Nat × Bool)}
 {F : Nat → Prop} {w : World} {μ : jN} {L : List (Nat × Obj)}
theorem Ki {K : Value → World → Prop} {α : Type} {e : TypeId} {enc : α → List Value} {k : Nat} {l : List α} {f : FuncId} {fv : Operand} {ax : Array Operand} {ats : Array TypeId} {b : Array Value} {args : List Value} (Y : List (Nat × Obj)) (i : ST dd F w W μ Y) (m : jv E fv = .func (.func f) #[] b) (he : ∀ args w, (callFunc f args).run P w = .ok (.enter f args) w) (ha : ax.map (jv E) ++ b = args.toArray) (j : mi dd P f args W e enc k l) (h : ∀ W' v μ' R, ST dd F w W' μ' (R ++ Y) → jT μ μ' → Lo F w μ μ' → jL e enc k v l R → K v W') : mD P E ⟨d, .call ⟨.value fv, ax, ats⟩, ty, pos, af, g⟩ W K :=
 Ky [] Y i m he ha j h
end
section
variable {dd : Bool}
variable {P : Program} {E : Nat → Value} {W : World} {d : Option Nat} {ty : TypeId} {pos : String} {af : Array Edge} {g : Option (Nat × Bool)}
 {F : Nat → Prop} {w : World} {μ : jN} {L : List (Nat × Obj)} {α : Type} {e' : TypeId} {enc : α → List Value} {k : Nat} {v : Value} {l : List α} {R : List (Nat × Obj)}
theorem BO {K : Value → World → Prop} {Y : List (Nat × Obj)} {t : TypeId} {x y : Operand} {p u : Value} {i : Nat} {x0 x1 : α} (b : ST dd F w W μ (R ++ Y)) (h : jL e' enc k v l R) (hk : ∀ x, (enc x).length = k) (h1 : ∀ x, ∀ u ∈ enc x, u.oneCell' = true) (q : jv E x = p) (r : jv E y = u) (hu : u.cells = (enc x1).toArray) (hp : yy R k p i) (n : l[i]? = some x0) (m : ∀ w, (sizeOf t).run P w = .ok k w) (j : ∀ W' R', ST dd F w W' μ (R' ++ Y) → jL e' enc k v (l.set i x1) R' → K undef W') : mD P E ⟨d, .store t x y, ty, pos, af, g⟩ W K :=
 KF [] b h hk h1 q r hu hp n m j
end
section
variable {dd : Bool}
variable {P : Program} {E : Nat → Value} {W : World} {d : Option Nat} {ty : TypeId} {pos : String} {af : Array Edge} {g : Option (Nat × Bool)}
 {F : Nat → Prop} {w : World} {μ : jN} {L : List (Nat × Obj)} {α : Type} {e' : TypeId} {enc : α → List Value} {k : Nat} {v : Value} {l : List α} {R : List (Nat × Obj)}
theorem Bl {K : Value → World → Prop} (z : α) {Y : List (Nat × Obj)} {t e : TypeId} {x : Operand} {u j : Value} {i : Nat} (b : ST dd F w W μ (R ++ Y)) (h : jL e' enc k v l R) (hk : ∀ x, (enc x).length = k) (h1 : ∀ x, ∀ u ∈ enc x, u.oneCell' = true) (p : P.underlying t = some (.slice e)) (r : ∀ w, (zeroValue e).run P w = .ok j w) (hu : zo k v i u) (n : j.cells = (enc z).toArray) (q : jv E x = u) (m : ∀ W' R', ST dd F w W' μ (R' ++ Y) → jL e' enc k v (nO l i z) R' → K (.tuple #[]) W') : mD P E ⟨d, .call ⟨.builtin .clear, #[x], #[t]⟩, ty, pos, af, g⟩ W K :=
 Jp z [] b h hk h1 p r hu n q m
end
section
variable {dd : Bool}
variable {κ γ : Type} {Q : Value → γ → List (Nat × Obj) → Prop} {beq : κ → κ → Bool} {kenc : κ → Value}
variable {P : Program} {W : World} {kt : TypeId} {E : Nat → Value} {d : Option Nat} {ty : TypeId} {pos : String} {af : Array Edge} {g : Option (Nat × Bool)} {F : Nat → Prop} {w : World} {μ : jN} {L : List (Nat × Obj)}
variable {κ2 β : Type} {kenc2 : κ2 → Value} {vf : β → Value} {beq2 : κ2 → κ2 → Bool} {kt2 : TypeId}
theorem Ll {j : Value → World → Prop} {Y R : List (Nat × Obj)} {t e : TypeId} {m x y : Operand} {p : Value} {i : List (κ × Value)} {l n : List (κ × List (κ2 × β))} {k : κ} {k2 : κ2} {v : β} (hk : ∀ {x y : κ}, beq x y = true → x = y) (K : oC P kt2 kenc2 beq2) (s : P.underlying t = some (.map kt2 e)) (b : ST dd F w W μ (R ++ Y)) (h : ml kenc (li kenc2 vf) p i l R) (hm : jv E m = qb beq i k (.map none)) (u : jv E x = kenc2 k2) (z : jv E y = vf v) (r : EA beq beq2 l k k2 v = some n) (q : ∀ W' R', ST dd F w W' μ (R' ++ Y) → ml kenc (li kenc2 vf) p i n R' → j undef W') : mD P E ⟨d, .mapUpdate t m x y, ty, pos, af, g⟩ W j :=
 MF [] hk K s b h hm u z r q
end
section
variable {dd : Bool}
variable {κ γ : Type} {Q : Value → γ → List (Nat × Obj) → Prop} {beq : κ → κ → Bool} {kenc : κ → Value}
variable {P : Program} {W : World} {kt : TypeId} {E : Nat → Value} {d : Option Nat} {ty : TypeId} {pos : String} {af : Array Edge} {g : Option (Nat × Bool)} {F : Nat → Prop} {w : World} {μ : jN} {L : List (Nat × Obj)}
variable {κ2 β : Type} {kenc2 : κ2 → Value} {vf : β → Value} {beq2 : κ2 → κ2 → Bool} {kt2 : TypeId}
theorem ML {j : Value → World → Prop} {Y R R2 : List (Nat × Obj)} {t e : TypeId} {m x y : Operand} {i : Value} {p : List (κ × Value)} {l n : List (κ × γ)} {k : κ} {u : Value} {z : γ} (K : oC P kt kenc beq) (v : P.underlying t = some (.map kt e)) (b : ST dd F w W μ (R ++ (R2 ++ Y))) (h : ml kenc Q i p l R) (hm : jv E m = i) (A : jv E x = kenc k) (G : jv E y = u) (s : Q u z R2) (r : EV beq l k z = some n) (q : ∀ W' R', ST dd F w W' μ (R' ++ Y) → ml kenc Q i (ns beq p k u) n R' → j undef W') : mD P E ⟨d, .mapUpdate t m x y, ty, pos, af, g⟩ W j :=
 Lz [] K v b h hm A G s r q
end
section
variable {dd : Bool}
variable {κ γ : Type} {Q : Value → γ → List (Nat × Obj) → Prop} {beq : κ → κ → Bool} {kenc : κ → Value}
variable {P : Program} {W : World} {kt : TypeId} {E : Nat → Value} {d : Option Nat} {ty : TypeId} {pos : String} {af : Array Edge} {g : Option (Nat × Bool)} {F : Nat → Prop} {w : World} {μ : jN} {L : List (Nat × Obj)}
theorem Pw {j : Value → World → Prop} {Y R R1 : List (Nat × Obj)} {t e : TypeId} {m x y : Operand} {i : Value} {n : List (κ × Value)} {l : List (κ × γ)} {k : κ} {u : Value} {z : γ} (K : oC P kt kenc beq) (r : P.underlying t = some (.map kt e)) (b : ST dd F w W μ (R ++ (R1 ++ Y))) (h : K7 beq kenc Q i n l k R) (hm : jv E m = i) (s : jv E x = kenc k) (v : jv E y = u) (q : Q u z R1) (p : ∀ W' R', ST dd F w W' μ (R' ++ Y) → ml kenc Q i (ns beq n k u) (ns beq l k z) R' → j undef W') : mD P E ⟨d, .mapUpdate t m x y, ty, pos, af, g⟩ W j :=
 Qx [] K r b h hm s v q p
end
section
variable {dd : Bool}
variable {κ γ : Type} {Q : Value → γ → List (Nat × Obj) → Prop} {beq : κ → κ → Bool} {kenc : κ → Value}
variable {P : Program} {W : World} {kt : TypeId} {E : Nat → Value} {d : Option Nat} {ty : TypeId} {pos : String} {af : Array Edge} {g : Option (Nat × Bool)} {F : Nat → Prop} {w : World} {μ : jN} {L : List (Nat × Obj)}
theorem KH {n : Value → World → Prop} {Y R : List (Nat × Obj)} {t e : TypeId} {m x : Operand} {j z : Value} {x0 : γ} {A : List (κ × Value)} {l : List (κ × γ)} {k : κ} (hk : ∀ {x y : κ}, beq x y = true ↔ x = y) (K : oC P kt kenc beq) (r : P.underlying t = some (.map kt e)) (u : ∀ w, (zeroValue e).run P w = .ok z w) (i : Q z x0 []) (b : ST dd F w W μ (R ++ Y)) (h : ml kenc Q j A l R) (hm : jv E m = j) (s : jv E x = kenc k) (q : ∀ W' v p R' R1, ST dd F w W' μ (R' ++ (R1 ++ Y)) → Q v ((kE beq l k).getD x0) R1 → Hz beq kenc Q j l k p R' → n (.tuple #[v, .int .i64 (p : Nat)]) W') : mD P E ⟨d, .mapEntry t m x, ty, pos, af, g⟩ W n :=
 KP [] hk K r u i b h hm s q
end
section
variable {dd : Bool}
variable {κ γ : Type} {Q : Value → γ → List (Nat × Obj) → Prop} {beq : κ → κ → Bool} {kenc : κ → Value}
variable {P : Program} {W : World} {kt : TypeId} {E : Nat → Value} {d : Option Nat} {ty : TypeId} {pos : String} {af : Array Edge} {g : Option (Nat × Bool)} {F : Nat → Prop} {w : World} {μ : jN} {L : List (Nat × Obj)}
theorem I0 {n : Value → World → Prop} {Y R R1 : List (Nat × Obj)} {t e : TypeId} {m s y : Operand} {j u : Value} {z : γ} {l : List (κ × γ)} {k : κ} {p : Nat} (hk : ∀ {x y : κ}, beq x y = true ↔ x = y) (K : oC P kt kenc beq) (b : ST dd F w W μ (R ++ (R1 ++ Y))) (h : Hz beq kenc Q j l k p R) (hm : jv E m = j) (v : jv E s = .int .i64 (p : Nat)) (A : jv E y = u) (r : Q u z R1) (q : ∀ W' i R', ST dd F w W' μ (R' ++ Y) → ml kenc Q j i (ns beq l k z) R' → n undef W') : mD P E ⟨d, .entryStore t m s y, ty, pos, af, g⟩ W n :=
 I1 (e := e) [] hk K b h hm v A r q
end
section
variable {dd : Bool}
variable {α : Type} {e : TypeId} {enc : α → List Value} {k : Nat} {v : Value} {l : List α} {R : List (Nat × Obj)}
variable {P : Program} {W : World} {E : Nat → Value} {d : Option Nat} {ty : TypeId} {pos : String} {af : Array Edge} {g : Option (Nat × Bool)} {F : Nat → Prop} {w : World} {μ : jN} {L : List (Nat × Obj)}
theorem Jm {K : Value → World → Prop} {t : TypeId} {b : Nat} {z vs : Value} {m r : List α} {Y : List (Nat × Obj)} {x y : Operand} {i : TypeInfo} (j : ST dd F w W μ (R ++ Y)) (hk : ∀ x, (enc x).length = k) (p : 0 < k) (h1 : ∀ x, ∀ u ∈ enc x, u.oneCell' = true) (M : P.underlying t = some (.slice e)) (J : P.info? e = some i) (T : i.zero = some z) (s : z.cells.size = k) (q : i.size = k) (n : i.bytes = b) (O : jv E x = v) (Q : jv E y = vs) (G : oL e enc k v l R) (L : Sl (Pl enc) k (hp W) vs m) (I : lC b l m = some r) (h : ∀ W' A R', ST dd F w W' μ (R' ++ Y) → oL e enc k A r R' → K A W') : mD P E ⟨d, .call ⟨.builtin .append, #[x, y], #[t, t]⟩, ty, pos, af, g⟩ W K :=
 Jj [] j hk p h1 M J T s q n O Q G L I h
end
section
variable {P : Program} {n : Nat} {Q : pk} {E : Nat → Value} {W : World} {ops : Array Oper} {rest : List Oper}
variable {dd : Bool} {α : Type} {enc : α → List Value} {k : Nat} {μ : jN} {v : Value}
variable {d : Option Nat} {ty : TypeId} {pos : String} {af : Array Edge} {g : Option (Nat × Bool)} {F : Nat → Prop} {w : World} {L : List (Nat × Obj)}
theorem H8 {K : Value → World → Prop} {α : Type} {e t s : TypeId} {enc : α → List Value} {k b : Nat} {v : Value} {n : Int} {z : α} {r : List α} {Y : List (Nat × Obj)} {x y : Operand} {i : TypeInfo} (j : ST dd F w W μ Y) (hk : ∀ x, (enc x).length = k) (m : 0 < k) (J : P.underlying t = some (.slice e)) (q : P.underlying s = some (.int .i64)) (I : P.info? e = some i) (O : i.zero = some v) (p : i.size = k) (l : i.bytes = b) (G : v.cells = (enc z).toArray) (L : jv E x = .slice none 0 0) (M : jv E y = .int .i64 n) (A : F4 b z n = some r) (h : ∀ W' u R', ST dd F w W' μ (R' ++ Y) → jL e enc k u r R' → K u W') : mD P E ⟨d, .call ⟨.builtin .append, #[x, y], #[t, s]⟩, ty, pos, af, g⟩ W K :=
 HX [] j hk m J q I O p l G L M A h
end
end Go.Proofs.YtjjjihkifgdhgaaGreatDoor
namespace Go.Proofs.YtjjjihkifgdhgaaGreatDoor
open Go.RowKit
variable [M : Md]
section
variable {P : Program} {n : Nat} {Q : pk} {E : Nat → Value} {W : World} {ops : Array Oper} {rest : List Oper}
variable {d j t : Nat} {want : Bool} {v : Value} {ins : Go.Op} {ty : TypeId} {pos : String} {af : Array Edge} {A : Value → Prop}
theorem V (i : lu P E ⟨some d, ins, ty, pos, af, none⟩ W v W) (h : LW P n ops Q rest (nA E d v) W) (b : d < n := by decide) : LW P n ops Q (⟨some d, ins, ty, pos, af, none⟩ :: rest) E W := Gz (.inl rfl) rfl b i h
theorem VE (h : mD P E ⟨some d, ins, ty, pos, af, none⟩ W fun v W' => LW P n ops Q rest (nA E d v) W') (b : d < n := by decide) : LW P n ops Q (⟨some d, ins, ty, pos, af, none⟩ :: rest) E W := PE (.inl rfl) rfl b h
theorem VO (h : mD P E ⟨none, ins, ty, pos, af, none⟩ W fun _ W' => LW P n ops Q rest E W') : LW P n ops Q (⟨none, ins, ty, pos, af, none⟩ :: rest) E W := Q7 (.inl rfl) rfl h
theorem VQ (i : ∃ p, A p ∧ ∀ W, lu P E ⟨some d, ins, ty, pos, af, none⟩ W p W) (h : ∀ p, A p → LW P n ops Q rest (nA E d p) W) (b : d < n := by decide) : LW P n ops Q (⟨some d, ins, ty, pos, af, none⟩ :: rest) E W := QL (.inl rfl) rfl b i h
theorem Vg (i : (ops[j]?).bind (·.dst) = some t) (b : E t = .bool want) (m : lu P E ⟨some d, ins, ty, pos, af, some (j, want)⟩ W v W) (h : LW P n ops Q rest (nA E d v) W) (p : t < n := by decide) (l : d < n := by decide) : LW P n ops Q (⟨some d, ins, ty, pos, af, some (j, want)⟩ :: rest) E W := Gz (.inr ⟨j, want, t, rfl, i, p, b⟩) rfl l m h
theorem My (i : (ops[j]?).bind (·.dst) = some t) (b : E t = .bool want) (h : mD P E ⟨some d, ins, ty, pos, af, some (j, want)⟩ W fun v W' => LW P n ops Q rest (nA E d v) W') (m : t < n := by decide) (l : d < n := by decide) : LW P n ops Q (⟨some d, ins, ty, pos, af, some (j, want)⟩ :: rest) E W := PE (.inr ⟨j, want, t, rfl, i, m, b⟩) rfl l h
theorem SA (i : (ops[j]?).bind (·.dst) = some t) (b : E t = .bool want) (m : ∃ p, A p ∧ ∀ W, lu P E ⟨some d, ins, ty, pos, af, some (j, want)⟩ W p W) (h : ∀ p, A p → LW P n ops Q rest (nA E d p) W) (q : t < n := by decide) (l : d < n := by decide) : LW P n ops Q (⟨some d, ins, ty, pos, af, some (j, want)⟩ :: rest) E W := QL (.inr ⟨j, want, t, rfl, i, q, b⟩) rfl l m h
theorem Vn (i : (ops[j]?).bind (·.dst) = some t) (b : E t = .bool (!want)) (h : LW P n ops Q rest (nA E d undef) W) (m : t < n := by decide) (l : d < n := by decide) : LW P n ops Q (⟨some d, ins, ty, pos, af, some (j, want)⟩ :: rest) E W := QU rfl l rfl i m b h
end
section
variable {P : Program} {n : Nat} {Q : pk} {E : Nat → Value} {W : World} {ops : Array Oper} {S : Array Bool → World → Prop} {fuel : Nat} {listed : Array Bool} {μ : jN} {B : List (Nat × Obj)}
variable {d j t : Nat} {want : Bool} {v : Value} {ins : Go.Op} {ty : TypeId} {pos : String} {af : Array Edge} {A : Value → Prop}
theorem X (i : Nat) (j : ops[i]? = some ⟨some d, ins, ty, pos, af, none⟩) (b : S (listed.setIfInBounds i true) W) (p : ∀ {W}, lu P E ⟨some d, ins, ty, pos, af, none⟩ W v W) (h : PX P n ops Q S fuel (listed.setIfInBounds i true) (nA E d v) W) (hk : AK ops listed i = true := by kernel_rfl) (hm : ∀ l w, S (l.setIfInBounds i true) w → S l w := by exact fun _ _ h => h) (m : d < n := by decide) : PX P n ops Q S (fuel + 1) listed E W := kw i j hk (.inl rfl) rfl m hm b (fun _ _ _ _ => p) h
theorem XH (i : Nat) (j : ops[i]? = some ⟨some d, ins, ty, pos, af, none⟩) (b : nc μ B W) (m : ∀ W, nc μ B W → lu P E ⟨some d, ins, ty, pos, af, none⟩ W v W) (h : PX P n ops Q (fun _ W => nc μ B W) fuel (listed.setIfInBounds i true) (nA E d v) W) (hk : AK ops listed i = true := by kernel_rfl) (l : d < n := by decide) : PX P n ops Q (fun _ W => nc μ B W) (fuel + 1) listed E W := kw i j hk (.inl rfl) rfl l (fun _ _ h => h) b (fun _ W _ h => m W h) h
theorem XQ (i : Nat) (j : ops[i]? = some ⟨some d, ins, ty, pos, af, none⟩) (b : S (listed.setIfInBounds i true) W) (q : ∃ p, A p ∧ ∀ W, lu P E ⟨some d, ins, ty, pos, af, none⟩ W p W) (h : ∀ p, A p → PX P n ops Q S fuel (listed.setIfInBounds i true) (nA E d p) W) (hk : AK ops listed i = true := by kernel_rfl) (hm : ∀ l w, S (l.setIfInBounds i true) w → S l w := by exact fun _ _ h => h) (m : d < n := by decide) : PX P n ops Q S (fuel + 1) listed E W := pZ i j hk (.inl rfl) rfl m hm b q h
theorem XE (i : Nat) (b : ops[i]? = some ⟨some d, ins, ty, pos, af, none⟩) (h : mD P E ⟨some d, ins, ty, pos, af, none⟩ W fun v W' => S (listed.setIfInBounds i true) W' ∧ PX P n ops Q S fuel (listed.setIfInBounds i true) (nA E d v) W') (l : Region.ready .any ops listed = [i] := by kernel_rfl) (j : d < n := by decide) : PX P n ops Q S (fuel + 1) listed E W := PO i b l (.inl rfl) rfl j h
theorem XO (i : Nat) (b : ops[i]? = some ⟨none, ins, ty, pos, af, none⟩) (h : mD P E ⟨none, ins, ty, pos, af, none⟩ W fun _ W' => S (listed.setIfInBounds i true) W' ∧ PX P n ops Q S fuel (listed.setIfInBounds i true) E W') (d : Region.ready .any ops listed = [i] := by kernel_rfl) : PX P n ops Q S (fuel + 1) listed E W := QY i b d (.inl rfl) rfl h
theorem Xg (i : Nat) (p : ops[i]? = some ⟨some d, ins, ty, pos, af, some (j, want)⟩) (q : (ops[j]?).bind (·.dst) = some t) (b : E t = .bool want) (m : S (listed.setIfInBounds i true) W) (u : ∀ {W}, lu P E ⟨some d, ins, ty, pos, af, some (j, want)⟩ W v W) (h : PX P n ops Q S fuel (listed.setIfInBounds i true) (nA E d v) W) (hk : AK ops listed i = true := by kernel_rfl) (hm : ∀ l w, S (l.setIfInBounds i true) w → S l w := by exact fun _ _ h => h) (s : t < n := by decide) (r : d < n := by decide) : PX P n ops Q S (fuel + 1) listed E W := kw i p hk (.inr ⟨j, want, t, rfl, q, s, b⟩) rfl r hm m (fun _ _ _ _ => u) h
theorem sZ (i : Nat) (m : ops[i]? = some ⟨some d, ins, ty, pos, af, some (j, want)⟩) (p : (ops[j]?).bind (·.dst) = some t) (b : E t = .bool want) (l : nc μ B W) (s : ∀ W, nc μ B W → lu P E ⟨some d, ins, ty, pos, af, some (j, want)⟩ W v W) (h : PX P n ops Q (fun _ W => nc μ B W) fuel (listed.setIfInBounds i true) (nA E d v) W) (hk : AK ops listed i = true := by kernel_rfl) (r : t < n := by decide) (q : d < n := by decide) : PX P n ops Q (fun _ W => nc μ B W) (fuel + 1) listed E W := kw i m hk (.inr ⟨j, want, t, rfl, p, r, b⟩) rfl q (fun _ _ h => h) l (fun _ W _ h => s W h) h
theorem IK (i : Nat) (l : ops[i]? = some ⟨some d, ins, ty, pos, af, some (j, want)⟩) (m : (ops[j]?).bind (·.dst) = some t) (b : E t = .bool want) (h : mD P E ⟨some d, ins, ty, pos, af, some (j, want)⟩ W fun v W' => S (listed.setIfInBounds i true) W' ∧ PX P n ops Q S fuel (listed.setIfInBounds i true) (nA E d v) W') (q : Region.ready .any ops listed = [i] := by kernel_rfl) (r : t < n := by decide) (p : d < n := by decide) : PX P n ops Q S (fuel + 1) listed E W := PO i l q (.inr ⟨j, want, t, rfl, m, r, b⟩) rfl p h
theorem Xn (i : Nat) (p : ops[i]? = some ⟨some d, ins, ty, pos, af, some (j, want)⟩) (q : (ops[j]?).bind (·.dst) = some t) (b : E t = .bool (!want)) (m : S (listed.setIfInBounds i true) W) (h : PX P n ops Q S fuel (listed.setIfInBounds i true) (nA E d undef) W) (hk : AK ops listed i = true := by kernel_rfl) (hm : ∀ l w, S (l.setIfInBounds i true) w → S l w := by exact fun _ _ h => h) (s : t < n := by decide) (r : d < n := by decide) : PX P n ops Q S (fuel + 1) listed E W := Rj i p hk rfl q s b rfl r hm m h
theorem Xu (i : Nat) (p : ops[i]? = some ⟨some d, ins, ty, pos, af, some (j, want)⟩) (q : (ops[j]?).bind (·.dst) = some t) (b : E t = undef) (m : S (listed.setIfInBounds i true) W) (h : PX P n ops Q S fuel (listed.setIfInBounds i true) (nA E d undef) W) (hk : AK ops listed i = true := by kernel_rfl) (hm : ∀ l w, S (l.setIfInBounds i true) w → S l w := by exact fun _ _ h => h) (s : t < n := by decide) (r : d < n := by decide) : PX P n ops Q S (fuel + 1) listed E W := PD i p hk rfl q s b rfl r hm m h
end
end Go.Proofs.YtjjjihkifgdhgaaGreatDoor
namespace Go.Proofs.YtjjjihkifgdhgaaGreatDoor
open Go.RowKit
section
variable {α β γ : Type}
inductive oA (Q : α → β → Prop) : List α → List β → Prop
 | nil : oA Q [] []
 | cons {a : α} {b : β} {l : List α} {m : List β} : Q a b → oA Q l m → oA Q (a :: l) (b :: m)
namespace oA
variable {Q Q' : α → β → Prop}
theorem length {l : List α} {m : List β} (h : oA Q l m) : l.length = m.length := by
 induction h with
 | nil => rfl
 | cons _ _ ih => simp [ih]
theorem imp {l : List α} {m : List β} (h : oA Q l m) (d : ∀ a b, Q a b → Q' a b) : oA Q' l m := by
 induction h with
 | nil => exact .nil
 | cons h1 _ ih => exact .cons (d _ _ h1) ih
theorem get {l : List α} {m : List β} (h : oA Q l m) : ∀ {i : Nat} {b : β}, m[i]? = some b → ∃ a, l[i]? = some a ∧ Q a b := by
 induction h with
 | nil => intro i b d; simp at d
 | cons h1 _ ih =>
  intro i b d
  cases i with
  | zero => simp at d; subst d; exact ⟨_, rfl, h1⟩
  | succ i => simpa using ih (by simpa using d)
theorem append {l b : List α} {m d : List β} (h : oA Q l m) (i : oA Q b d) : oA Q (l ++ b) (m ++ d) := by
 induction h with
 | nil => exact i
 | cons h1 _ ih => exact .cons h1 ih
theorem set {l : List α} {m : List β} (h : oA Q l m) {a : α} {b : β} (j : Q a b) : ∀ i : Nat, oA Q (l.set i a) (m.set i b) := by
 induction h with
 | nil => intro i; exact .nil
 | cons h1 d ih =>
  intro i
  cases i with
  | zero => exact .cons j d
  | succ i => exact .cons h1 (ih i)
theorem take {l : List α} {m : List β} (h : oA Q l m) : ∀ i : Nat, oA Q (l.take i) (m.take i) := by
 induction h with
 | nil => intro i; simp; exact .nil
 | cons h1 _ ih =>
  intro i
  cases i with
  | zero => exact .nil
  | succ i => exact .cons h1 (ih i)
theorem drop {l : List α} {m : List β} (h : oA Q l m) : ∀ i : Nat, oA Q (l.drop i) (m.drop i) := by
 induction h with
 | nil => intro i; simp; exact .nil
 | cons h1 b ih =>
  intro i
  cases i with
  | zero => exact .cons h1 b
  | succ i => exact ih i
end oA
theorem Bc {P : Nat → β → α → Prop} : ∀ {m : List β} (o : Nat), (∀ (i : Nat) (b : β), m[i]? = some b → ∃ a, P (o + i) b a) → ∃ l : List α, l.length = m.length ∧ ∀ (i : Nat) (b : β), m[i]? = some b → ∃ a, l[i]? = some a ∧ P (o + i) b a
 | [], _, _ => ⟨[], rfl, fun i b h => by simp at h⟩
 | b :: m, o, h => by
  obtain ⟨a, ha⟩ := h 0 b rfl
  obtain ⟨l, h1, j⟩ := Bc (m := m) (o + 1) (fun i b n => by
   obtain ⟨a, ha⟩ := h (i + 1) b (by simpa using n)
   exact ⟨a, by rw [show o + 1 + i = o + (i + 1) by omega]; exact ha⟩)
  refine ⟨a :: l, by simp [h1], fun i c d => ?_⟩
  cases i with
  | zero => simp at d; subst d; exact ⟨a, rfl, ha⟩
  | succ i =>
   obtain ⟨x, p, hp⟩ := j i c (by simpa using d)
   exact ⟨x, by simpa using p, by rw [show o + (i + 1) = o + 1 + i by omega]; exact hp⟩
theorem oA.MJ {Q : α → β → Prop} : ∀ {l : List α} {m : List β}, l.length = m.length → (∀ (i : Nat) (a : α) (b : β), l[i]? = some a → m[i]? = some b → Q a b) → oA Q l m
 | [], [], _, _ => .nil
 | [], _ :: _, h, _ => by cases h
 | _ :: _, [], h, _ => by cases h
 | a :: l, b :: m, h, d => .cons (d 0 a b rfl rfl) (oA.MJ (by simpa using h) (fun i x y j n => d (i + 1) x y (by simpa using j) (by simpa using n)))
end
structure Deep {β : Type} (R : oP β) (k : Nat) : Prop where
 mono : Fb R
 len : ∀ {μ ys x}, R μ ys x → ys.length = k
 one : ∀ {μ ys x}, R μ ys x → ∀ u ∈ ys, u.oneCell' = true
abbrev vu (k : Nat) := {ys : List Value // ys.length = k ∧ ∀ u ∈ ys, u.oneCell' = true}
def tQ {k : Nat} (c : vu k) : List Value := c.1
theorem xP {k : Nat} (x : vu k) : (tQ x).length = k := x.2.1
theorem M6 {k : Nat} (x : vu k) : ∀ u ∈ tQ x, u.oneCell' = true := x.2.2
theorem Sl.wm {α : Type} {R : oP α} {k : Nat} {μ : jN} {v : Value} {l : List α} (h : Sl R k μ v l) : v.oneCell' = true := by
 obtain ⟨A, c, rfl, _⟩ := h; rfl
section
variable {β : Type} {Rl : oP β} {k : Nat} {μ μ' : jN} {v : Value} {l : List β}
def Deep.cell (b : Deep Rl k) {ys : List Value} {x : β} (h : Rl μ ys x) : vu k := ⟨ys, b.len h, b.one h⟩
theorem Sl.raw (G : Deep Rl k) (h : Sl Rl k μ v l) : ∃ cl : List (vu k), Sl (Pl tQ) k μ v cl ∧ oA (fun c x => Rl μ c.1 x) cl l := by
 obtain ⟨A, c, rfl, h1, u, z⟩ := h
 cases l with
 | nil => exact ⟨[], ⟨A, c, rfl, h1, u, fun h => absurd h (by simp)⟩, .nil⟩
 | cons x0 l =>
  obtain ⟨b, off, cs, T, fr, rfl, I, E⟩ := z (by simp)
  obtain ⟨cl, r, t⟩ := Bc (P := fun i x (c : vu k) => Rl μ c.1 x ∧ ∀ j y, c.1[j]? = some y → cs[off + i * k + j]? = some y) (m := x0 :: l) 0 (fun i x s => by
   obtain ⟨ys, _, n, p⟩ := E i x s
   exact ⟨G.cell n, n, by rw [dI]; exact p⟩)
  refine ⟨cl, ⟨_, c, by rw [r], by omega, u, fun _ => ⟨b, off, cs, T, fr, rfl, I, fun i c q => ?_⟩⟩, oA.MJ r (fun i c x q s => ?_)⟩
  ·have J : i < (x0 :: l).length := by rw [← r]; exact (aW.1 q).1
   obtain ⟨w, d, _, p⟩ := t i _ (dC J)
   rw [q] at d; cases d
   exact ⟨c.1, c.2.1, rfl, by rw [dI] at p; exact p⟩
  ·obtain ⟨w, d, n, _⟩ := t i x s
   rw [q] at d; cases d
   exact n
theorem Sl.LI {cl : List (vu k)} (h : Sl (Pl tQ) k μ v cl) (w : jT μ μ') (ha : oA (fun c x => Rl μ' c.1 x) cl l) : Sl Rl k μ' v l := by
 obtain ⟨A, c, rfl, h1, p, q⟩ := h
 have d := ha.length
 refine ⟨A, c, by rw [d], by omega, p, fun z => ?_⟩
 obtain ⟨b, off, cs, T, fr, rfl, s, r⟩ := q (by omega)
 refine ⟨b, off, cs, T, fr, rfl, w _ _ s, fun i x y => ?_⟩
 obtain ⟨c, t, u⟩ := ha.get y
 obtain ⟨ys, j, m, n⟩ := r i c t
 cases m
 exact ⟨tQ c, j, u, n⟩
def AM (Rl : oP β) (k : Nat) (μ : jN) (W : World) (v : Value) (l : List β) : Prop := ∃ cl : List (vu k), Sl (Pl tQ) k (hp W) v cl ∧ oA (fun c x => Rl μ c.1 x) cl l
theorem AM.sl (d : Deep Rl k) {W : World} (h : Sl Rl k μ v l) (i : jT μ (hp W)) : AM Rl k μ W v l := by
 obtain ⟨cl, h1, b⟩ := h.raw d
 exact ⟨cl, h1.mono (Pl.mono _) i, b⟩
theorem Sl.M7 {b m : Nat} {cl : List (vu k)} {cs : Array Value} {e : TypeId} (hm : cl.length = m) (d : m ≤ maxLen) (l : cs.toList = (cl.map tQ).flatten) (h : μ b = some (.cells cs e (0, 0))) : Sl (Pl tQ) k μ (.slice (some ⟨b, 0, none⟩) m m) cl := by
 subst hm
 refine ⟨_, _, rfl, aR _, d, fun _ => ⟨b, 0, _, _, _, rfl, h, fun i x n => ⟨tQ x, xP x, rfl, fun j y p => ?_⟩⟩⟩
 have := wL xP cl i x n j y p
 rw [← l] at this
 simpa using this
inductive BS (Rl : oP β) (k : Nat) (μ : jN) : List Value → List β → Prop
 | nil : BS Rl k μ [] []
 | cons {ys zs : List Value} {x : β} {l : List β} : Rl μ ys x → BS Rl k μ zs l → BS Rl k μ (ys ++ zs) (x :: l)
theorem BS.cells (d : Deep Rl k) {ys : List Value} (h : BS Rl k μ ys l) : ∃ cl : List (vu k), (cl.map tQ).flatten = ys ∧ oA (fun c x => Rl μ c.1 x) cl l := by
 induction h with
 | nil => exact ⟨[], rfl, .nil⟩
 | cons h1 _ ih =>
  obtain ⟨cl, e, b⟩ := ih
  exact ⟨d.cell h1 :: cl, by rw [bF, bL, e]; rfl, .cons h1 b⟩
theorem AM.lit (j : Deep Rl k) {W : World} {b m : Nat} {ys : List Value} {e : TypeId} (h : BS Rl k μ ys l) (hm : l.length = m) (n : m ≤ maxLen) (p : W.heap[b]? = some (.cells ys.toArray e (0, 0))) : AM Rl k μ W (.slice (some ⟨b, 0, none⟩) m m) l := by
 obtain ⟨cl, i, d⟩ := h.cells j
 exact ⟨cl, Sl.M7 (by rw [d.length]; exact hm) n i.symm p, d⟩
theorem Sl.imp {R R' : oP β} (h : Sl R k μ v l) (s : ∀ ys x, R μ ys x → R' μ ys x) : Sl R' k μ v l := by
 obtain ⟨A, c, rfl, h1, d, j⟩ := h
 refine ⟨A, c, rfl, h1, d, fun t => ?_⟩
 obtain ⟨b, off, cs, T, fr, rfl, r, m⟩ := j t
 exact ⟨b, off, cs, T, fr, rfl, r, fun i x u => let ⟨ys, n, p, q⟩ := m i x u; ⟨ys, n, s _ _ p, q⟩⟩
theorem DF : ∀ (l : List Nat) (n : Nat), n ∈ l → n ≤ l.foldr max 0
 | [], n, h => by cases h
 | a :: l, n, h => by
  rcases aK.1 h with rfl | h
  ·exact Nat.le_max_left _ _
  ·exact dy (DF l n h) (Nat.le_max_right _ _)
theorem Sl.Ro {R : oP β} {d : Nat → oP β} (h : Sl R k μ v l) (I : ∀ ys x, R μ ys x → ∃ n, d n μ ys x) (up : ∀ n m ys x, n ≤ m → d n μ ys x → d m μ ys x) : ∃ n, Sl (d n) k μ v l := by
 obtain ⟨A, c, rfl, h1, u, E⟩ := h
 by_cases w : 0 < l.length
 ·obtain ⟨b, off, cs, T, fr, rfl, J, G⟩ := E w
  obtain ⟨M, O, z⟩ := Bc (P := fun i x (p : Nat × List Value) => p.2.length = k ∧ d p.1 μ p.2 x ∧ ∀ j y, p.2[j]? = some y → cs[off + i * k + j]? = some y) (m := l) 0 (fun i x t => by
   obtain ⟨ys, r, s, q⟩ := G i x t
   obtain ⟨n, L⟩ := I _ _ s
   exact ⟨(n, ys), r, L, by rw [dI]; exact q⟩)
  refine ⟨(M.map (·.1)).foldr max 0, _, c, rfl, h1, u, fun _ => ⟨b, off, cs, T, fr, rfl, J, fun i x t => ?_⟩⟩
  obtain ⟨p, hp, r, s, q⟩ := z i x t
  exact ⟨p.2, r, up _ _ _ _ (DF _ _ (bH.2 ⟨p, cT hp, rfl⟩)) s, by rw [dI] at q; exact q⟩
 ·exact ⟨0, A, c, rfl, h1, u, fun h => absurd h w⟩
theorem PV {α : Type} {enc : α → List Value} {k : Nat} : Deep (Dj enc k) 1 where
 mono := Dj.mono _ _
 len := by rintro _ _ _ ⟨v, rfl, h⟩; rfl
 one := by rintro _ _ _ ⟨v, rfl, h⟩ u hu; rw [bK] at hu; subst hu; exact h.wm
def kk (e : TypeId) (Rl : oP β) (k : Nat) (μ : jN) (v : Value) (l : List β) (B : List (Nat × Obj)) : Prop := ∃ cl : List (vu k), jL e tQ k v cl B ∧ oA (fun c x => Rl μ c.1 x) cl l
variable {e : TypeId} {B : List (Nat × Obj)}
theorem kk.mono (d : Deep Rl k) (h : kk e Rl k μ v l B) (i : jT μ μ') : kk e Rl k μ' v l B := by
 obtain ⟨cl, h1, b⟩ := h
 exact ⟨cl, h1, b.imp (fun _ _ h => d.mono _ _ _ _ i h)⟩
theorem kk.nil (e : TypeId) (Rl : oP β) (k : Nat) (μ : jN) : kk e Rl k μ (.slice none 0 0) [] [] := ⟨[], jL.nil _ _ _, .nil⟩
theorem kk.lit (j : Deep Rl k) {b m : Nat} {ys : List Value} (h : BS Rl k μ ys l) (hm : l.length = m) (n : m ≤ maxLen) (p : ys.length = m * k) : kk e Rl k μ (.slice (some ⟨b, 0, none⟩) m m) l [(b, .cells ys.toArray e (0, 0))] := by
 obtain ⟨cl, i, d⟩ := h.cells j
 exact ⟨cl, jL.lit (by rw [d.length]; exact hm) n i.symm (by simpa using p), d⟩
theorem kk.form (h : kk e Rl k μ v l B) : ∃ A c, v = .slice A l.length c := by
 obtain ⟨cl, h1, b⟩ := h
 rw [← b.length]; exact h1.form
theorem kk.len (h : kk e Rl k μ v l B) : l.length ≤ 9223372036854775807 := by
 obtain ⟨cl, h1, b⟩ := h
 rw [← b.length]; exact h1.len
theorem kk.nd (h : kk e Rl k μ v l B) : (B.map (·.1)).Nodup := let ⟨_, h1, _⟩ := h; h1.nd
theorem kk.isNil {n c : Nat} (h : kk e Rl k μ (.slice none n c) l B) : l = [] := by
 obtain ⟨cl, h1, b⟩ := h
 have := b.length
 rw [h1.isNil] at this
 exact aO this.symm
theorem kk.sl (h : kk e Rl k μ v l B) (i : Deep Rl k) (j : jT μ μ') (hm : ∀ b o, (b, o) ∈ B → μ' b = some o) : Sl Rl k μ' v l := by
 obtain ⟨cl, h1, d⟩ := h
 exact Sl.LI (h1.sl xP hm) (jT.refl _) (d.imp (fun _ _ h => i.mono _ _ _ _ j h))
end
section
variable {β : Type} {Rl : oP β} {k : Nat} {μ : jN} {v : Value} {l : List β} {e : TypeId} {B : List (Nat × Obj)}
variable {dd : Bool} {F : Nat → Prop} {w W : World} {L : List (Nat × Obj)}
theorem kk.RG (h : kk e Rl k μ v l B) (d : Deep Rl k) (b : ST dd F w W μ L) (i : ∀ p, p ∈ B → p ∈ L) : Sl Rl k (hp W) v l := h.sl d b.jx (fun _ _ j => b.at_ (i _ j))
theorem AM.row (h : kk e Rl k μ v l B) (b : ST dd F w W μ L) (i : ∀ p, p ∈ B → p ∈ L) : AM Rl k μ W v l := let ⟨cl, h1, d⟩ := h; ⟨cl, h1.RG xP b i, d⟩
theorem kk.LC (h : kk e Rl k μ v l B) (b : ST dd lB w W μ L) (d : ∀ p, p ∈ B → p ∈ L) : Fr w.heap.size v := let ⟨_, h1, _⟩ := h; h1.LC b d
theorem ST.vN {Y : List (Nat × Obj)} (j : Deep Rl k) (b : ST dd F w W μ (B ++ Y)) (h : kk e Rl k μ v l B) : ∃ μ', ST dd F w W μ' Y ∧ jT μ μ' ∧ Lo F w μ μ' ∧ Sl Rl k μ' v l := by
 obtain ⟨cl, h1, i⟩ := h
 obtain ⟨μ', d, a2, a4, a3⟩ := ST.KC b h1 xP
 exact ⟨μ', d, a2, a4, Sl.LI a3 (jT.refl _) (i.imp (fun _ _ h => j.mono _ _ _ _ a2 h))⟩
variable {P : Program} {E : Nat → Value} {d : Option Nat} {ty : TypeId} {pos : String} {af : Array Edge} {g : Option (Nat × Bool)}
theorem mo {t e' : TypeId} {x b : Operand} {G : IntKind} {i : Int} {x0 : β} {A : List Value → Prop} (s : ∀ {ys}, Rl μ ys x0 → A ys) (y : P.underlying t = some (.slice e')) (he : ∀ w, (sizeOf e').run P w = .ok k w) (z : jv E x = v) (q : jv E b = .int G i) (u : Sl Rl k μ v l) (h : 0 ≤ i) (r : l[i.toNat]? = some x0) :
  ∃ p, (∃ ys, A ys ∧ At μ p ys) ∧ ∀ W, lu P E ⟨d, .indexAddr t x b, ty, pos, af, g⟩ W p W := by
 obtain ⟨p, ys, _, j, m, n⟩ := GG (d := d) (ty := ty) (pos := pos) (af := af) (g := g) y he z q u h r
 exact ⟨p, ⟨ys, s j, m⟩, n⟩
theorem xb {x : Operand} {t e' : TypeId} (b : P.underlying t = some (.slice e')) (i : jv E x = v) (h : kk e Rl k μ v l B) : lu P E ⟨d, .call ⟨.builtin .len, #[x], #[t]⟩, ty, pos, af, g⟩ W (.int .i64 l.length) W := by
 obtain ⟨A, c, rfl⟩ := h.form
 exact yf b i
theorem kW {t e' : TypeId} {x m : Operand} {J : IntKind} {i : Int} {x0 : β} {A : List Value → Prop} (y : ∀ {ys}, Rl μ ys x0 → A ys) (G : P.underlying t = some (.slice e')) (he : ∀ w, (sizeOf e').run P w = .ok k w) (I : jv E x = v) (s : jv E m = .int J i) (h : kk e Rl k μ v l B) (n : 0 ≤ i) (u : l[i.toNat]? = some x0) :
  ∃ p, (∃ ys, A ys ∧ At (Bf B) p ys ∧ yy B k p i.toNat) ∧ ∀ W, lu P E ⟨d, .indexAddr t x m, ty, pos, af, g⟩ W p W := by
 obtain ⟨cl, h1, q⟩ := h
 obtain ⟨c, j, z⟩ := q.get u
 obtain ⟨p, b, r⟩ := pK (d := d) (ty := ty) (pos := pos) (af := af) (g := g) G he I s h1 n j
 exact ⟨p, ⟨c.1, y z, b.at h1 xP j, b⟩, r⟩
theorem Nn {α j : Type} {b : Nat} {l m r : List α} {d i : List j} (h : lC b l m = some r) (h1 : d.length = l.length) (n : i.length = m.length) : lC b d i = some (d ++ i) ∧ r = l ++ m := by
 unfold lC at h ⊢
 rw [h1, n]
 split at h
 ·rename_i p; cases h; rw [aZ p]; exact ⟨rfl, rfl⟩
 ·cases h
theorem vc {K : Value → World → Prop} {t : TypeId} {b : Nat} {z vs : Value} {m r : List β} {Y : List (Nat × Obj)} {x y : Operand} {i : TypeInfo} (hD : Deep Rl k) (n : ST dd F w W μ (B ++ Y)) (s : 0 < k) (T : P.underlying t = some (.slice e)) (Q : P.info? e = some i) (hz : i.zero = some z) (A : z.cells.size = k) (u : i.size = k) (q : i.bytes = b) (U : jv E x = v) (Z : jv E y = vs) (M : kk e Rl k μ v l B) (R : AM Rl k μ W vs m) (O : lC b l m = some r) (h : ∀ W' j R', ST dd F w W' μ (R' ++ Y) → kk e Rl k μ j r R' → K j W') : mD P E ⟨d, .call ⟨.builtin .append, #[x, y], #[t, t]⟩, ty, pos, af, g⟩ W K := by
 obtain ⟨cl, h1, G⟩ := M
 obtain ⟨cm, L, I⟩ := R
 obtain ⟨p, rfl⟩ := Nn O G.length I.length
 exact oh n xP s M6 T Q hz A u q U Z h1 L p (fun W' j R' J a2 => h W' j R' J ⟨_, a2, G.append I⟩)
theorem pG {K : Value → World → Prop} {Y : List (Nat × Obj)} {t : TypeId} {x y : Operand} {p : Value} {i : Nat} {x0 x1 : β} {ys : List Value} (q : Deep Rl k) (b : ST dd F w W μ (B ++ Y)) (h : kk e Rl k μ v l B) (A : jv E x = p) (G : jv E y = .agg ys.toArray) (m : Rl μ ys x1) (hp : yy B k p i) (z : l[i]? = some x0) (s : ∀ w, (sizeOf t).run P w = .ok k w) (r : ∀ W' R', ST dd F w W' μ (R' ++ Y) → kk e Rl k μ v (l.set i x1) R' → K undef W') : mD P E ⟨d, .store t x y, ty, pos, af, g⟩ W K := by
 obtain ⟨cl, h1, j⟩ := h
 obtain ⟨c, u, _⟩ := j.get z
 exact BO (x1 := q.cell m) b h1 xP M6 A G rfl hp u s (fun W' R' n a2 => r W' R' n ⟨_, a2, j.set m i⟩)
end
end Go.Proofs.YtjjjihkifgdhgaaGreatDoor
namespace Go.Proofs.YtjjjihkifgdhgaaGreatDoor
open Go.RowKit
def lQ (dd : Bool) (P : Program) (f : FuncId) (args : List Value) (w : World) (μ0 : jN) (L0 : List (Nat × Obj)) (K : Value → List (Nat × Obj) → jN → Prop) : Prop :=
 Calls P f args.toArray w fun e b => ∃ v L1 μ1, e = .returned v ∧ si dd L0 L1 w b ∧ jT μ0 μ1 ∧ Lo (keys L0) w μ0 μ1 ∧ jT μ1 (sR b L1) ∧ K v L1 μ1
theorem lQ.lX {dd : Bool} {P : Program} {f : FuncId} {args : List Value} {w : World} {μ0 : jN} {L0 : List (Nat × Obj)} {K : Value → List (Nat × Obj) → jN → Prop} (h : lQ true P f args w μ0 L0 K) : lQ dd P f args w μ0 L0 K :=
 cW h fun _ _ ⟨v, L1, μ1, h1, b, d⟩ => ⟨v, L1, μ1, h1, b.lX, d⟩
section
variable {dd : Bool} {F : Nat → Prop} {w W W' : World} {μ μ1 : jN} {L L0 L1 L2 : List (Nat × Obj)}
theorem ST.QM (h : ST dd F w W μ (L0 ++ L)) (l : si dd L0 L1 W W') (m : Lo (keys L0) W μ μ1) (j : jT μ1 (sR W' L1)) : ST dd F w W' μ1 (L1 ++ L) := by
 have h1 := h.back l
 refine ⟨h1.os, h1.tape, h1.output, h1.drawn, h1.size, h1.lF, fun b o hm => ?_, fun b o d => ?_, h1.nd⟩
 ·have := j b o hm
  unfold sR at this
  split at this
  ·cases this
  ·exact this
 ·obtain ⟨n, q, p⟩ := h1.box b o d
  refine ⟨n, ?_, p⟩
  rcases aN.1 d with d | d
  ·cases hm : μ1 b with
   | none => rfl
   | some x =>
    have := j b x hm
    unfold sR at this
    rw [aZ ⟨o, d⟩] at this
    cases this
  ·have i := h.box b o (dO _ d)
   rw [m b (nq i.1) (DT h.nd d)]
   exact i.2.1
variable {P : Program} {E : Nat → Value} {d : Option Nat} {ty : TypeId} {pos : String} {af : Array Edge} {g : Option (Nat × Bool)}
theorem NM {K : Value → World → Prop} {K' : Value → List (Nat × Obj) → jN → Prop} {f : FuncId} {fv : Operand} {ax : Array Operand} {ats : Array TypeId} {j : Array Value} {args : List Value} (L0 L2 : List (Nat × Obj)) (i : ST dd F w W μ L) (l : L.Perm (L0 ++ L2)) (z : jv E fv = .func (.func f) #[] j) (he : ∀ args w, (callFunc f args).run P w = .ok (.enter f args) w) (ha : ax.map (jv E) ++ (#[] : Array Value) = args.toArray) (y : Dv L0 W → (L0.map (·.1)).Nodup → jT μ (sR W L0) → (∀ b o, (b, o) ∈ L2 → sR W L0 b = some o) → lQ dd P f (args ++ j.toList) W μ L0 K') (h : ∀ W' v μ' L1, ST dd F w W' μ' (L1 ++ L2) → jT μ μ' → Lo F w μ μ' → K' v L1 μ' → K v W') : mD P E ⟨d, .call ⟨.value fv, ax, ats⟩, ty, pos, af, g⟩ W K := by
 have m : ax.map (jv E) = args.toArray := by simpa using ha
 refine DS (args := (args ++ j.toList).toArray) z he (by rw [m]; simp) (cW (y (i.held l) (i.PI l) (i.Qu l) (i.J3 l)) (fun _ W' ⟨v, L1, μ1, h1, p, r, n, s, t⟩ => ⟨v, h1, h W' v μ1 L1 ((i.perm l).QM p n s) r (fun b x u => n b (dT x i.size) (fun ⟨o, A⟩ => by
  rcases ((i.perm l).box b o (cC _ A)).2.2 with q | q
  ·omega
  ·exact u q)) t⟩))
end
theorem pv.wm {κ γ : Type} {kenc : κ → Value} {Q : Value → γ → List (Nat × Obj) → Prop} {μ : jN} {v : Value} {l : List (κ × γ)} (h : pv kenc Q μ v l) : v.oneCell' = true := by
 obtain ⟨b, R, h, _⟩ := h
 obtain ⟨m, rfl⟩ := h.form
 rfl
theorem uL.wm {κ β : Type} {kenc : κ → Value} {vf : β → Value} {μ : jN} {v : Value} {l : List (κ × β)} (h : uL kenc vf μ v l) : v.oneCell' = true := by
 obtain ⟨m, rfl⟩ := h.form
 rfl
end Go.Proofs.YtjjjihkifgdhgaaGreatDoor
