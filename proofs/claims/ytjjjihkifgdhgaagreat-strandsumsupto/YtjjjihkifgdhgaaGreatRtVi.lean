/- a part of a proof of StrandSums -/
import Derived.WalkKit
import Derived.WalkLawsBesides
import Derived.TacticsIn
import Derived.OrdersIn
import Derived.ControlIn
import Derived.Maps.AppendAt
import Derived.OrdersHeld
import Derived.Laws.IdiomStrings
import Derived.Maps.RangeRun
import Derived.Lib.BytesEntry
import Derived.Lib.Bytealg
import Derived.Laws.Externs
import Derived.ChangeKeysEq
import Derived.Deep.AppendSrc
import Derived.Laws.MakeOwn
set_option linter.all false
namespace Go.Proofs.YtjjjihkifgdhgaaGreat
open Go.RowKit
def aA := @Option.bind_some
def aB := @Bool.false_eq_true
def aD := @List.length_append
def aG := @List.append_assoc
def aH := @if_false
def aI := @List.length_cons
def aK := @List.mem_cons
def aM := @if_true
def aN := @List.mem_append
def aO := @Nat.exists_eq_succ_of_ne_zero
def aP := @List.nil_append
def aR := @List.eq_nil_of_length_eq_zero
def aS := @beq_self_eq_true
def aU := @Nat.le_refl
def aV := @run_underlying
def aW := @List.cons.injEq
def aX := @Int.natCast_nonneg
def aY := @if_neg
def aZ := @if_pos
def bk := @Bool.and_eq_true
def bn := @Nat.lt_succ_self
def bA := @List.cons_append
def bD := @List.map_cons
def bE := @List.drop_length
def bF := @List.mem_map
def bH := @Bool.eq_iff_iff
def bI := @List.append_nil
def bJ := @List.getElem?_eq_some_iff
def bK := @Result.andThen_ok
def bL := @decide_eq_true_eq
def bM := @List.mem_singleton
def bN := @congrArg
def bO := @List.flatten_cons
def bP := @List.length_nil
def bR := @List.Perm.refl
def bT := @List.nodup_append
def bV := @decide_true
def bY := @Sem.run_bind
def cA := @List.Perm.append_left
def cC := @decide_false
def cD := @List.mem_append_left
def cE := @List.map_append
def cH := @Bool.not_true
def cI := @List.pairwise_cons
def cK := @List.mem_filter
def cL := @Nat.add_mul
def cM := @Nat.mul_le_mul_right
def cN := @List.flatten_append
def cO := @List.pairwise_append
def cP := @List.not_mem_nil
def cR := @List.nodup_cons
def cT := @Calls.mono
def cU := @List.getElem?_eq_getElem
def cV := @List.mem_of_getElem?
def cW := @List.length_map
def cX := @Sem.run_pure
def cY := @List.eq_nil_or_concat
def cZ := @Array.length_toList
def dl := @List.flatten_nil
def dm := @List.mem_cons_of_mem
def dq := @Bool.not_false
def dr := @and_true
def dt := @List.mem_append_right
def du := @Array.getElem?_eq_some_iff
def dv := @List.length_take
def dx := @List.size_toArray
def dy := @Int.toNat_natCast
def dz := @Nat.le_trans
def dA := @Addr.add_lit
def dB := @List.take_of_length_le
def dC := @Nat.min_eq_left
def dD := @Option.map_some
def dE := @List.filter_cons
def dF := @Array.getElem?_toList
def dG := @List.concat_eq_append
def dI := @DataW.trod_struct
def dJ := @List.getElem?_drop
def dL := @Bool.true_and
def dO := @Array.getElem?_modify
def dP := @List.getElem?_take_of_lt
def dQ := @Bool.eq_false_or_eq_true
def dS := @Nat.lt_of_lt_of_le
def dT := @List.length_eq_zero_iff
def dU := @List.any_eq_true
def dV := @Array.getD_eq_getD_getElem?
def dW := @List.findIdx?_eq_some_iff_getElem
def dX := @Nat.zero_add
def ed := @List.length_filter_le
def ee := @Nat.eq_zero_or_pos
def ei := @List.length_zipIdx
def ej := @List.eq_nil_iff_forall_not_mem
def ek := @Nat.add_assoc
def eo := @List.map_map
def ep := @Nat.zero_le
def et := @List.ext_getElem?
def eu := @List.map_nil
def eC := @List.sum_cons
def eE := @List.perm_middle
def eF := @List.all_eq_true
def eH := @Bool.not_eq_true
def eJ := @List.getElem?_append_right
def eK := @List.findIdx?_cons
def eP := @List.getElem?_eq_none
def eQ := @List.perm_append_comm
def eS := @Classical.byContradiction
def eT := @List.getElem?_set
def eU := @List.getElem?_map
def eV := @or_false
def eX := @Bool.not_eq_true'
def eZ := @ByteArray.toList_eq
def fb := @beq_eq_false_iff_ne
def fc := @wpIn_mono
def fe := @List.take_append
def fh := @List.getElem?_take
def fw := @List.find?_cons
def fz := @Bool.or_eq_true
def fD := @List.singleton_append
def fE := @List.getElem?_toArray
def fF := @Function.comp_def
def fG := @List.pairwise_map
def fH := @List.perm_append_comm_assoc
def fJ := @List.getElem?_append
def fL := @List.perm_append_singleton
def fM := @Bool.false_and
def fN := @Nat.add_zero
def fR := @List.getElem?_append_left
def fS := @List.findIdx?_eq_none_iff
def fT := @List.Perm.nodup_iff
def fU := @List.filter_eq_self
def fZ := @List.any_cons
def ga := @List.foldl_cons
def gd := @beq_iff_eq
def gh := @List.mem_cons_self
def gi := @eq_iff_iff
def gj := @List.find?_eq_none
def gk := @cell_of_row
def gl := @List.getElem?_cons_zero
def gm := @List.pairwise_mergeSort
def gq := @List.pairwise_singleton
def gr := @callsIn_wide
def gu := @List.take_take
def gv := @List.findIdx?_map
def gw := @Option.some.injEq
def gx := @List.Perm.append_right
def gy := @Bool.and_assoc
def gz := @Bool.not_not
def gA := @List.flatMap_cons
def gB := @decide_eq_true
def gC := @Array.getElem?_append
def gD := @Nat.div_lt_iff_lt_mul
def gE := @List.take_append_drop
def gF := @List.length_replicate
def gG := @List.length_drop
def gH := @Option.getD_some
def gL := @List.all_cons
def gM := @List.findIdx?_append
def gN := @List.forall_mem_cons
def gP := @List.length_set
def gS := @List.filter_nil
def gT := @run_callFunc_extern
def gU := @List.mergeSort_perm
def gV := @List.flatMap_append
def gW := @List.take_length_add_append
def ie := @Classical.em
def ig := @run_loadCells_list
def ij := @grownCap_le_maxLen
def iq := @List.drop_take
def ir := @List.map_replicate
def iu := @List.map_mergeSort
def iw := @List.filter_append
def iy := @UInt8.toNat_lt
def iz := @Bool.and_false
def iA := @Nat.le_succ
def iB := @run_storeCells_at
def iF := @UInt8.ofNat_toNat
def iG := @List.find?_append
def iH := @of_decide_eq_true
def iI := @ByteArray.ext
def iJ := @Prod.mk.injEq
def iM := @Bool.false_or
def iN := @Bool.and_self
def iO := @List.mem_flatten
def iP := @List.zipIdx_cons
def iT := @List.mem_flatMap
def iZ := @Oper.upon_value
def ja := @Oper.upon_enter
def jb := @Option.some.inj
def jd := @Nat.one_mul
def je := @getD_set_ne
def jk := @mem_ready
class Md where
 ro : Option Nat
 D : List Deferred
instance xI : Md := ⟨none, []⟩
theorem xk {ro : Option Nat} {P : Program} {ρ : Operand → Value} {o : Oper} {W W' : World} {x : Next} (h : (execOp ρ o).run P W = .ok x W') (g : ∀ d, x ≠ .defer d) : (Oper.semAt ro ρ o).run P W = .ok x W' := by
 cases ro with
 | none => exact h
 | some l =>
  rw [Oper.semAt_eq]
  ·exact h
  ·intro c b
   have e : (execOp ρ o) = (resolve ρ c o.type >>= fun d => pure (Next.defer d)) := by
    unfold execOp; rw [b]
   rw [e, bY] at h
   cases a : (resolve ρ c o.type).run P W with
   | ok d w => rw [a, bK] at h; cases h; exact g d rfl
   | halt z w => rw [a] at h; cases h
def Md.F (M : Md) : Fence := { Fence.wide with round := M.ro }
theorem MN {M : Md} {n : Nat} {P : Program} {f : FuncId} {args : Array Value} {w : World} {R : Ending → World → Prop} : CallsIn M.F n P f args w R ↔ Calls P f args w R := gr
theorem He {M : Md} {n : Nat} {P : Program} {f : FuncId} {args : Array Value} {w : World} {R : Ending → World → Prop} (h : Calls P f args w R) : (M.F.depth.isSome = true → 1 ≤ n) ∧ CallsIn M.F (n - 1) P f args w R :=
 ⟨fun e => (nomatch (show (none : Option Nat).isSome = true from e)), MN.2 h⟩
variable [M : Md]
def nm (E : Nat → Value) (d : Nat) (v : Value) : Nat → Value := fun t => if t = d then v else E t
def jz (E : Nat → Value) : Operand → Value
 | .tmp t => E t
 | .const v => v
 | .global g => .pointer (some ⟨g, 0, none⟩)
 | .func f => .func (.func f) #[] #[]
def Ag (n : Nat) (a : Act) (E : Nat → Value) : Prop := a.tmps.size = n ∧ a.defers = M.D ∧ ∀ t, a.tmps.getD t undef = E t
section
variable {n : Nat} {a : Act} {E : Nat → Value}
theorem Ag.eval (h : Ag n a E) : a.eval = jz E := by
 funext x
 cases x with
 | tmp t => exact h.2.2 t
 | const v => rfl
 | global g => rfl
 | func f => rfl
theorem Ag.put (h : Ag n a E) {d : Nat} (i : d < n) (v : Value) : Ag n (a.put (some d) v) (nm E d v) := by
 refine ⟨by simp [Act.put, h.1], h.2.1, fun t => ?_⟩
 have g := h.2.2 t
 simp only [Act.put, nm]
 by_cases b : t = d
 ·subst b
  simp [h.1, i]
 ·have : ¬ d = t := fun e => b e.symm
  rw [aY b, ← g]
  simp [dV, this]
theorem Ag.yF (h : Ag n a E) (v : Value) : Ag n (a.put none v) E := h
theorem Ag.yield (h : Ag n a E) {ops : Array Oper} {j t : Nat} {b : Bool} (g : (ops[j]?).bind (·.dst) = some t) (k : t < n) (l : E t = .bool b) : yielded ops a.tmps j = some b := by
 have d := h.2.2 t
 have i : a.tmps[t]? = some (E t) := by
  rw [← d]
  simp [dV, h.1, k]
 simp [yielded, g, i, l]
end
abbrev nr := Exit → (Nat → Value) → World → Prop
def E0 : Nat → Value := fun _ => undef
def lift (n : Nat) (Q : nr) : Exit → Act → World → Prop
 | .panic c, a, w => a.defers = M.D ∧ Q (.panic c) E0 w
 | .outgrown, _, _ => False
 | e, a, w => ∃ E, Ag n a E ∧ Q e E w
theorem IX {n : Nat} {Q : nr} {c : List PanicEntry} {a : Act} {d : Option Nat} {v : Value} {w : World} (h : lift n Q (.panic c) (a.put d v) w) : lift n Q (.panic c) a w := by
 cases d <;> exact h
def CW (P : Program) (n : Nat) (c : Code) (Q : nr) (E : Nat → Value) (W : World) : Prop := ∀ a, Ag n a E → c.wpIn M.F 0 P (lift n Q) a W
def LW (P : Program) (n : Nat) (ops : Array Oper) (Q : nr) (l : List Oper) (E : Nat → Value) (W : World) : Prop := ∀ a, Ag n a E → wpListIn M.F 0 P ops (lift n Q) l a W
def oZ (K : (Nat → Value) → World → Prop) (Q : nr) : nr
 | .normal, E, W => K E W
 | e, E, W => Q e E W
def ur (id : Nat) (Q : nr) : nr
 | .exit j, E, W => if j = id then Q .normal E W else Q (.exit j) E W
 | e, E, W => Q e E W
section
variable {P : Program} {n : Nat} {Q : nr} {E : Nat → Value} {W : World} {c x y : Code} {ops : Array Oper} {rest : List Oper} {o : Oper}
theorem BL {Q' : nr} (h : CW P n c Q E W) (g : ∀ e E W, Q e E W → Q' e E W) : CW P n c Q' E W := fun a ha =>
 fc (h a ha) (fun e _ _ h => by
  cases e with
  | panic c => exact ⟨h.1, g _ _ _ h.2⟩
  | outgrown => exact h
  | _ => obtain ⟨E', b, d⟩ := h; exact ⟨E', b, g _ _ _ d⟩)
theorem jI (h : CW P n x (oZ (fun E W => CW P n y Q E W) Q) E W) : CW P n (.seq x y) Q E W := fun a ha =>
 wpIn_seq (fc (h a ha) (fun e d i h => by
  cases e with
  | normal => obtain ⟨E', b, g⟩ := h; exact g d b
  | _ => exact h))
theorem lJ (h : Q .normal E W) : CW P n .skip Q E W := fun _ ha => wpIn_skip ⟨E, ha, h⟩
theorem kv (h : Q .ret E W) : CW P n .ret Q E W := fun _ ha => wpIn_ret ⟨E, ha, h⟩
theorem ng {id : Nat} (h : Q (.exit id) E W) : CW P n (.exit id) Q E W := fun _ ha => wpIn_exit ⟨E, ha, h⟩
theorem kX {id : Nat} (h : CW P n c (ur id Q) E W) : CW P n (.block id c) Q E W := fun a ha =>
 wpIn_block (fc (h a ha) (fun e i k h => by
  cases e with
  | exit j =>
   obtain ⟨E', b, d⟩ := h
   simp only [Exit.inBlock]
   simp only [ur] at d
   split at d
   ·rename_i g; rw [aZ g]; exact ⟨E', b, d⟩
   ·rename_i g; rw [aY g]; exact ⟨E', b, d⟩
  | _ => exact h))
theorem LD {co : Operand} {b : Bool} (d : jz E co = .bool b) (i : b = true → CW P n x Q E W) (g : b = false → CW P n y Q E W) : CW P n (.cond co x y) Q E W := fun a ha => by
 refine wpIn_cond_split (t := b) (by rw [ha.eval]; exact d) (fun h => i h a ha) (fun h => g h a ha)
theorem we {co : Operand} (a : jz E co = .bool true) (h : CW P n x Q E W) : CW P n (.cond co x y) Q E W := LD a (fun _ => h) (fun h => by cases h)
theorem su {co : Operand} (a : jz E co = .bool false) (h : CW P n y Q E W) : CW P n (.cond co x y) Q E W := LD a (fun h => by cases h) (fun _ => h)
theorem jC {id : Nat} {l : List Oper} (h : LW P n l.toArray Q l E W) : CW P n (.region id l.toArray false) Q E W := fun a ha => wpIn_region_lit (h a ha)
theorem jU (h : Q .normal E W) : LW P n ops Q [] E W := fun _ ha => wpListIn_nil ⟨E, ha, h⟩
theorem GD {P : Program} {F : Fence} {n : Nat} {c : Code} {Q : Exit → Act → World → Prop} {a : Act} {w : World} (I : Nat → Act → World → Prop) (m : Nat) (j : I m a w) (round : ∀ m a w, I m a w → c.wpIn F n P (Exit.then (fun l p => ∃ g, g < m ∧ I g l p) Q) a w) : (Code.loop c).wpIn F n P Q a w := by
 classical
 let J : Act → World → Prop := fun a w => ∃ m, I m a w
 have least : ∀ a w, J a w → ∃ m, I m a w ∧ ∀ k, I k a w → m ≤ k := fun a w ⟨m, hm⟩ => by
  induction m using Nat.strongRecOn with
  | _ m ih =>
   by_cases h : ∃ k, k < m ∧ I k a w
   ·obtain ⟨k, hk, b⟩ := h; exact ih k hk b
   ·exact ⟨m, hm, fun k b => Nat.le_of_not_lt fun d => h ⟨k, d, b⟩⟩
 let μ : Act → World → Nat := fun a w => if h : J a w then Classical.choose (least a w h) else 0
 have i : ∀ a w (h : J a w), I (μ a w) a w ∧ ∀ k, I k a w → μ a w ≤ k := fun a w h => by
  have e : μ a w = Classical.choose (least a w h) := dif_pos h
  rw [e]; exact Classical.choose_spec (least a w h)
 refine wpIn_loop J μ ⟨m, j⟩ fun a w q => fc (round _ a w (i a w q).1) fun e l p h => ?_
 cases e with
 | normal => obtain ⟨g, d, b⟩ := h; exact ⟨⟨g, b⟩, Nat.lt_of_le_of_lt ((i l p ⟨g, b⟩).2 g b) d⟩
 | _ => exact h
theorem mT (I : Nat → (Nat → Value) → World → Prop) (m : Nat) (b : I m E W) (round : ∀ m E W, I m E W → CW P n c (oZ (fun E' W' => ∃ d, d < m ∧ I d E' W') Q) E W) : CW P n (.loop c) Q E W := fun a ha =>
 GD (fun m a w => ∃ E, Ag n a E ∧ I m E w) m ⟨E, ha, b⟩ (fun m a w ⟨E, ha, k⟩ =>
  fc (round m E w k a ha) (fun e l p h => by
   cases e with
   | normal => obtain ⟨E', i, d, j, g⟩ := h; exact ⟨d, j, E', i, g⟩
   | _ => exact h))
def rE (n : Nat) (ops : Array Oper) (E : Nat → Value) (o : Oper) : Prop :=
 o.guard = none ∨ ∃ j want t, o.guard = some (j, want) ∧ (ops[j]?).bind (·.dst) = some t ∧ t < n ∧ E t = .bool want
theorem rE.of {a : Act} (h : rE n ops E o) (ha : Ag n a E) : Region.wanted o (yielded ops a.tmps) = true := by
 rcases h with h | ⟨j, want, t, d, g, i, b⟩
 ·simp [Region.wanted, h]
 ·simp [Region.wanted, d, ha.yield g i b]
theorem M3 {d : Nat} {v : Value} {W' : World} (hw : rE n ops E o) (b : o.dst = some d) (g : d < n) (i : (execOp (jz E) o).run P W = .ok (.value v) W') (h : LW P n ops Q rest (nm E d v) W') : LW P n ops Q (o :: rest) E W := fun a ha => by
 unfold wpListIn
 rw [aZ (hw.of ha)]
 unfold Oper.wpIn
 refine ⟨fun _ _ => trivial, ?_⟩
 rw [ha.eval, xk i (by simp), Oper.uponIn_value, b]
 exact h _ (ha.put g v)
theorem N0 {W' : World} (hw : rE n ops E o) (b : o.dst = none) (d : (execOp (jz E) o).run P W = .ok .skip W') (h : LW P n ops Q rest E W') : LW P n ops Q (o :: rest) E W := fun a ha => by
 unfold wpListIn
 rw [aZ (hw.of ha)]
 unfold Oper.wpIn
 refine ⟨fun _ _ => trivial, ?_⟩
 rw [ha.eval, xk d (by simp), Oper.uponIn_skip, b]
 exact h _ (ha.yF _)
theorem Ow {f : FuncId} {args : Array Value} {d : Nat} (hw : rE n ops E o) (g : o.dst = some d) (j : d < n) (k : (execOp (jz E) o).run P W = .ok (.enter f args) W) (h : Calls P f args W fun e b => ∃ v, e = .returned v ∧ LW P n ops Q rest (nm E d v) b) : LW P n ops Q (o :: rest) E W := fun a ha => by
 unfold wpListIn
 rw [aZ (hw.of ha)]
 unfold Oper.wpIn
 refine ⟨fun _ _ => trivial, ?_⟩
 rw [ha.eval, xk k (by simp), Oper.uponIn_enter]
 refine He (cT h ?_)
 rintro e b ⟨v, rfl, i⟩
 simp only [g]
 exact i _ (ha.put j v)
theorem RT {d j t : Nat} {want : Bool} (g : o.dst = some d) (l : d < n) (i : o.guard = some (j, want)) (k : (ops[j]?).bind (·.dst) = some t) (m : t < n) (b : E t = .bool (!want)) (h : LW P n ops Q rest (nm E d undef) W) : LW P n ops Q (o :: rest) E W := fun a ha => by
 unfold wpListIn
 have p := ha.yield k m b
 rw [aY (by simp [Region.wanted, i, p])]
 rw [g]
 exact ⟨fun _ _ => trivial, h _ (ha.put l _)⟩
end
end Go.Proofs.YtjjjihkifgdhgaaGreat
namespace Go.Proofs.YtjjjihkifgdhgaaGreat
open Go.RowKit
variable {dd : Bool}
abbrev jN := Nat → Option Obj
def hp (W : World) : jN := fun b => W.heap[b]?
def sO (dd : Bool) (a b : Nat) : Prop := dd = true → a ≤ b
theorem sO.of {dd : Bool} {a b : Nat} (h : a ≤ b) : sO dd a b := fun _ => h
theorem sO.trans {dd : Bool} {a b c : Nat} (h : sO dd a b) (k : sO dd b c) : sO dd a c := fun e => dz (h e) (k e)
structure Ex (dd : Bool) (w W : World) : Prop where
 os : W.os = w.os
 tape : W.tape = w.tape
 output : W.output = w.output
 drawn : sO dd w.drawn W.drawn
 size : w.heap.size ≤ W.heap.size
 lO : ∀ b, b < w.heap.size → W.heap[b]? = w.heap[b]?
theorem Ex.refl (w : World) : Ex dd w w := ⟨rfl, rfl, rfl, sO.of (aU _), aU _, fun _ _ => rfl⟩
theorem Ex.trans {a b c : World} (h : Ex dd a b) (k : Ex dd b c) : Ex dd a c :=
 ⟨k.os.trans h.os, k.tape.trans h.tape, k.output.trans h.output, sO.trans h.drawn k.drawn, dz h.size k.size, fun i d => (k.lO i (dS d h.size)).trans (h.lO i d)⟩
theorem Ex.drew (w : World) : Ex dd w w.drew := ⟨rfl, rfl, rfl, sO.of (iA _), aU _, fun _ _ => rfl⟩
theorem Ex.alloc (w : World) (o : Obj) : Ex dd w (w.alloc o) := ⟨rfl, rfl, rfl, sO.of (aU _), by show w.heap.size ≤ (w.heap.push o).size; simp, fun k hk => Below.heap_alloc w o k hk⟩
theorem Ex.lR {w W : World} (h : Ex true w W) : Ex dd w W := ⟨h.os, h.tape, h.output, sO.of (h.drawn rfl), h.size, h.lO⟩
def jR (μ μ' : jN) : Prop := ∀ b o, μ b = some o → μ' b = some o
theorem jR.refl (μ : jN) : jR μ μ := fun _ _ h => h
theorem jR.trans {a b c : jN} (h : jR a b) (k : jR b c) : jR a c := fun x o d => k x o (h x o d)
structure ST (dd : Bool) (F : Nat → Prop) (w W : World) (μ : jN) (L : List (Nat × Obj)) : Prop where
 os : W.os = w.os
 tape : W.tape = w.tape
 output : W.output = w.output
 drawn : sO dd w.drawn W.drawn
 size : w.heap.size ≤ W.heap.size
 lO : ∀ b, b < w.heap.size → ¬ F b → W.heap[b]? = w.heap[b]?
 mem : ∀ b o, μ b = some o → W.heap[b]? = some o
 box : ∀ b o, (b, o) ∈ L → W.heap[b]? = some o ∧ μ b = none ∧ (w.heap.size ≤ b ∨ F b)
 nd : (L.map (·.1)).Nodup
def kK : Nat → Prop := fun _ => False
theorem ST.start (w : World) : ST dd kK w w (hp w) [] :=
 ⟨rfl, rfl, rfl, sO.of (aU _), aU _, fun _ _ _ => rfl, fun _ _ h => h, fun _ _ h => (by cases h), by simp⟩
section
variable {F : Nat → Prop} {w W W' : World} {μ μ' : jN} {L L' : List (Nat × Obj)}
theorem ST.ex (h : ST dd kK w W μ L) : Ex dd w W := ⟨h.os, h.tape, h.output, h.drawn, h.size, fun b a => h.lO b a (fun x => x)⟩
theorem OK (W : World) (o : Obj) : (W.alloc o).heap[W.heap.size]? = some o := heap_alloc_new W o
theorem na {W : World} {b : Nat} {o : Obj} (h : W.heap[b]? = some o) : b < W.heap.size := (du.1 h).1
theorem ST.drew (h : ST dd F w W μ L) : ST dd F w W.drew μ L :=
 ⟨h.os, h.tape, h.output, sO.trans h.drawn (sO.of (iA _)), h.size, h.lO, h.mem, h.box, h.nd⟩
theorem ST.DI (h : ST dd F w W μ L) {b : Nat} {o : Obj} (a : (b, o) ∈ L) : b < W.heap.size := na (h.box b o a).1
theorem ST.alloc (h : ST dd F w W μ L) (o : Obj) : ST dd F w (W.alloc o) μ ((W.heap.size, o) :: L) := by
 refine ⟨h.os, h.tape, h.output, h.drawn, dz h.size (Ex.alloc (dd := true) W o).size, fun b a i => ?_, fun b o' a => ?_, fun b o' a => ?_, ?_⟩
 ·rw [(Ex.alloc (dd := true) W o).lO b (dS a h.size)]; exact h.lO b a i
 ·have := h.mem b o' a
  rw [(Ex.alloc (dd := true) W o).lO b (na this)]; exact this
 ·rcases aK.1 a with e | a
  ·cases e
   refine ⟨OK W o, ?_, .inl h.size⟩
   cases hm : μ W.heap.size with
   | none => rfl
   | some x => have := na (h.mem _ _ hm); omega
  ·obtain ⟨h1, d, g⟩ := h.box b o' a
   exact ⟨by rw [(Ex.alloc (dd := true) W o).lO b (na h1)]; exact h1, d, g⟩
 ·simp only [bD, cR]
  refine ⟨fun hm => ?_, h.nd⟩
  obtain ⟨⟨b, o'⟩, a, e⟩ := bF.1 hm
  have := h.DI a
  simp at e
  omega
theorem ST.put {A B : List (Nat × Obj)} {b : Nat} {o o' : Obj} (h : ST dd F w W μ (A ++ (b, o) :: B)) (s : W'.os = W.os ∧ W'.tape = W.tape ∧ W'.output = W.output ∧ W.drawn ≤ W'.drawn ∧ W'.heap.size = W.heap.size) (g : ∀ k, k ≠ b → W'.heap[k]? = W.heap[k]?) (t : W'.heap[b]? = some o') : ST dd F w W' μ (A ++ (b, o') :: B) := by
 obtain ⟨h1, n, p, q, r⟩ := s
 have d := h.box b o (by simp)
 have a := h.nd
 simp only [cE, bD] at a
 have i : ∀ x o, (x, o) ∈ A → x ≠ b := fun x o l e => by
  subst e
  have := (bT.1 a).2.2 x (bF.2 ⟨_, l, rfl⟩) x (by simp)
  exact this rfl
 have j : ∀ x o, (x, o) ∈ B → x ≠ b := fun x o l e => by
  subst e
  have := (cR.1 (bT.1 a).2.1).1
  exact this (bF.2 ⟨_, l, rfl⟩)
 refine ⟨h1.trans h.os, n.trans h.tape, p.trans h.output, sO.trans h.drawn (sO.of q), by rw [r]; exact h.size, fun k hk m => ?_, fun k x hk => ?_, fun k x hk => ?_, by simpa using a⟩
 ·rw [g k (fun e => by subst e; rcases d.2.2 with h | h; omega; exact m h)]
  exact h.lO k hk m
 ·rw [g k (fun e => by subst e; rw [d.2.1] at hk; cases hk)]
  exact h.mem k x hk
 ·rcases aN.1 hk with hk | hk
  ·rw [g k (i k x hk)]; exact h.box k x (by simp [hk])
  ·rcases aK.1 hk with e | hk
   ·cases e; exact ⟨t, d.2⟩
   ·rw [g k (j k x hk)]; exact h.box k x (by simp [hk])
def Lo (F : Nat → Prop) (w : World) (μ μ' : jN) : Prop := ∀ b, b < w.heap.size → ¬ F b → μ' b = μ b
theorem Lo.refl {F : Nat → Prop} {w : World} {μ : jN} : Lo F w μ μ := fun _ _ _ => rfl
theorem Lo.trans {F : Nat → Prop} {w : World} {a b c : jN} (h : Lo F w a b) (k : Lo F w b c) : Lo F w a c := fun x g d => (k x g d).trans (h x g d)
def grow (μ : jN) (W W' : World) : jN := fun b => if b < W.heap.size then μ b else W'.heap[b]?
theorem ST.Co (h : ST dd F w W μ L) {b : Nat} {o : Obj} (a : μ b = some o) : b < W.heap.size := na (h.mem b o a)
theorem ST.call (h : ST dd F w W μ L) (d : Ex dd W W') : ST dd F w W' (grow μ W W') L := by
 refine ⟨d.os.trans h.os, d.tape.trans h.tape, d.output.trans h.output, sO.trans h.drawn d.drawn, dz h.size d.size, fun b a k => ?_, fun b o a => ?_, fun b o a => ?_, h.nd⟩
 ·rw [d.lO b (dS a h.size)]; exact h.lO b a k
 ·unfold grow at a
  split at a
  ·rename_i g; rw [d.lO b g]; exact h.mem b o a
  ·exact a
 ·obtain ⟨h1, i, j⟩ := h.box b o a
  exact ⟨by rw [d.lO b (na h1)]; exact h1, by unfold grow; rw [aZ (na h1)]; exact i, j⟩
theorem ST.NH (h : ST dd F w W μ L) (W' : World) : jR μ (grow μ W W') := fun b o a => by
 unfold grow; rw [aZ (h.Co a)]; exact a
theorem ST.lR (h : ST dd F w W μ' L) (d : jR μ μ') : ST dd F w W μ L :=
 ⟨h.os, h.tape, h.output, h.drawn, h.size, h.lO, fun b o a => h.mem b o (d b o a), fun b o a => by
  obtain ⟨h1, g, i⟩ := h.box b o a
  refine ⟨h1, ?_, i⟩
  cases hm : μ b with
  | none => rfl
  | some x => (have := d b x hm; rw [g] at this; cases this), h.nd⟩
theorem ST.F3 (h : ST dd F w W μ L) (a : Ex dd W W') : ST dd F w W' μ L := (h.call a).lR (h.NH W')
theorem ST.jy (h : ST dd F w W μ L) : jR μ (hp W) := h.mem
def Kx (μ : jN) (b : Nat) (o : Obj) : jN := fun k => if k = b then some o else μ k
theorem ST.Hh {A B : List (Nat × Obj)} {b : Nat} {o : Obj} (h : ST dd F w W μ (A ++ (b, o) :: B)) : ST dd F w W (Kx μ b o) (A ++ B) := by
 have g := h.box b o (by simp)
 have a := h.nd
 simp only [cE, bD] at a
 have j : ∀ x y, (x, y) ∈ A ++ B → x ≠ b := fun x y d e => by
  subst e
  rcases aN.1 d with d | d
  ·exact (bT.1 a).2.2 x (bF.2 ⟨_, d, rfl⟩) x (by simp) rfl
  ·exact (cR.1 (bT.1 a).2.1).1 (bF.2 ⟨_, d, rfl⟩)
 refine ⟨h.os, h.tape, h.output, h.drawn, h.size, h.lO, fun k x hk => ?_, fun k x hk => ?_, ?_⟩
 ·unfold Kx at hk
  split at hk
  ·rename_i e; cases hk; rw [e]; exact g.1
  ·exact h.mem k x hk
 ·have i : (k, x) ∈ A ++ (b, o) :: B := by
   rcases aN.1 hk with h | h <;> simp [h]
  obtain ⟨h1, l, m⟩ := h.box k x i
  exact ⟨h1, by unfold Kx; rw [aY (j k x hk)]; exact l, m⟩
 ·have : (A ++ B).Sublist (A ++ (b, o) :: B) := List.Sublist.append (List.Sublist.refl A) (List.sublist_cons_self _ _)
  exact List.Nodup.sublist (this.map _) h.nd
theorem ST.G2 {A B : List (Nat × Obj)} {b : Nat} {o : Obj} (h : ST dd F w W μ (A ++ (b, o) :: B)) : jR μ (Kx μ b o) := fun k x hk => by
 unfold Kx
 split
 ·rename_i e; subst e; rw [(h.box k o (by simp)).2.1] at hk; cases hk
 ·exact hk
theorem ST.Nj {A B : List (Nat × Obj)} {b : Nat} {o : Obj} (h : ST dd F w W μ (A ++ (b, o) :: B)) : Lo F w μ (Kx μ b o) := fun k hk d => by
 refine aY (fun e => ?_)
 subst e
 rcases (h.box k o (by simp)).2.2 with a | a
 ·omega
 ·exact d a
theorem ST.drop {A B : List (Nat × Obj)} {p : Nat × Obj} (h : ST dd F w W μ (A ++ p :: B)) : ST dd F w W μ (A ++ B) :=
 (h.Hh (b := p.1) (o := p.2)).lR h.G2
end
abbrev pA (α : Type) := jN → List Value → α → Prop
def Sl {α : Type} (R : pA α) (k : Nat) (μ : jN) (v : Value) (l : List α) : Prop :=
 ∃ A c, v = .slice A l.length c ∧ l.length ≤ c ∧ c ≤ maxLen ∧ (0 < l.length → ∃ b off cs T fr, A = some ⟨b, off, none⟩ ∧ μ b = some (.cells cs T fr) ∧
  ∀ i x, l[i]? = some x → ∃ ys, ys.length = k ∧ R μ ys x ∧ ∀ j y, ys[j]? = some y → cs[off + i * k + j]? = some y)
def At (μ : jN) (v : Value) (ys : List Value) : Prop :=
 ∃ b off cs T fr, v = .pointer (some ⟨b, off, none⟩) ∧ μ b = some (.cells cs T fr) ∧ ∀ j y, ys[j]? = some y → cs[off + j]? = some y
def Fr (B : Nat) (v : Value) : Prop := ∀ b, v.ownBlock = some b → B ≤ b
def FX {α : Type} (R : pA α) : Prop := ∀ μ μ' ys x, jR μ μ' → R μ ys x → R μ' ys x
def Pl {α : Type} (enc : α → List Value) : pA α := fun _ ys x => ys = enc x
theorem Pl.mono {α : Type} (enc : α → List Value) : FX (Pl enc) := fun _ _ _ _ _ h => h
theorem Sl.mono {α : Type} {R : pA α} (t : FX R) {k : Nat} {μ μ' : jN} {v : Value} {l : List α} (h : Sl R k μ v l) (d : jR μ μ') : Sl R k μ' v l := by
 obtain ⟨A, c, h1, g, j, m⟩ := h
 refine ⟨A, c, h1, g, j, fun u => ?_⟩
 obtain ⟨b, off, cs, T, fr, n, p, q⟩ := m u
 exact ⟨b, off, cs, T, fr, n, d _ _ p, fun i x w => let ⟨ys, r, s, a⟩ := q i x w; ⟨ys, r, t _ _ _ _ d s, a⟩⟩
theorem At.mono {μ μ' : jN} {v : Value} {ys : List Value} (h : At μ v ys) (g : jR μ μ') : At μ' v ys := by
 obtain ⟨b, off, cs, T, fr, h1, a, d⟩ := h
 exact ⟨b, off, cs, T, fr, h1, g _ _ a, d⟩
theorem Sl.len {α : Type} {R : pA α} {k : Nat} {μ : jN} {v : Value} {l : List α} (h : Sl R k μ v l) : l.length ≤ 9223372036854775807 := by
 obtain ⟨A, c, h1, b, a, d⟩ := h
 unfold maxLen at a
 omega
theorem Sl.nil {α : Type} (R : pA α) (k : Nat) (μ : jN) : Sl R k μ (.slice none 0 0) [] := ⟨none, 0, rfl, aU _, by decide, fun h => absurd h (by simp)⟩
theorem Fr.mono {B B' : Nat} {v : Value} (h : Fr B v) (a : B' ≤ B) : Fr B' v := fun b d => dz a (h b d)
theorem Fr.nil (B : Nat) : Fr B (.slice none 0 0) := fun b a => by simp [Value.ownBlock] at a
end Go.Proofs.YtjjjihkifgdhgaaGreat
namespace Go.Proofs.YtjjjihkifgdhgaaGreat
open Go.RowKit
variable [M : Md]
variable {dd : Bool}
section
variable {P : Program} {n : Nat} {Q : nr} {E : Nat → Value} {W : World} {ops : Array Oper} {rest : List Oper}
 {d : Option Nat} {ty : TypeId} {pos : String} {af : Array Edge} {g : Option (Nat × Bool)}
 {F : Nat → Prop} {w : World} {μ : jN} {L : List (Nat × Obj)}
def lD (P : Program) (E : Nat → Value) (o : Oper) (W : World) (v : Value) (W' : World) : Prop := (execOp (jz E) o).run P W = .ok (.value v) W'
theorem Hc {o : Oper} {dd : Nat} {v : Value} (hw : rE n ops E o) (a : o.dst = some dd) (b : dd < n) (d : lD P E o W v W) (h : LW P n ops Q rest (nm E dd v) W) : LW P n ops Q (o :: rest) E W := M3 hw a b d h
theorem jx {x : Operand} {v : Value} (a : jz E x = v) : lD P E ⟨d, .move x, ty, pos, af, g⟩ W v W := by rw [← a]; rfl
theorem ma {x : Operand} {v : Value} (a : jz E x = v) : lD P E ⟨d, .assign x, ty, pos, af, g⟩ W v W := by rw [← a]; rfl
theorem jO {c x y : Operand} {v : Value} (a : jz E c = .bool true) (b : jz E x = v) : lD P E ⟨d, .pick c x y, ty, pos, af, g⟩ W v W := by
 show (do pure (.value (if ← asBool (jz E c) then jz E x else jz E y)) : Sem Next).run P W = _
 rw [a, ← b]; simp [asBool]
theorem jQ {c x y : Operand} {v : Value} (a : jz E c = .bool false) (b : jz E y = v) : lD P E ⟨d, .pick c x y, ty, pos, af, g⟩ W v W := by
 show (do pure (.value (if ← asBool (jz E c) then jz E x else jz E y)) : Sem Next).run P W = _
 rw [a, ← b]; simp [asBool]
theorem qa {x : Operand} {i : Nat} {vs : Array Value} {v : Value} (b : jz E x = .tuple vs) (a : vs[i]? = some v) : lD P E ⟨d, .extract x i, ty, pos, af, g⟩ W v W := by
 show (do pure (.value (← Instr.extract (jz E x) i)) : Sem Next).run P W = _
 rw [b]; simp [Instr.extract, a]
theorem pa {u : TypeId} {x : Operand} {b : Bool} (a : jz E x = .bool b) : lD P E ⟨d, .unOp .not u x, ty, pos, af, g⟩ W (.bool !b) W := by
 show (do pure (.value (← Op.unary .not (jz E x))) : Sem Next).run P W = _
 rw [a]; simp [Op.unary]
theorem Ln {fn : Fn} {first caps : Array Operand} {v : Value} (a : .func fn (first.map (jz E)) (caps.map (jz E)) = v) : lD P E ⟨d, .makeFunc fn first caps, ty, pos, af, g⟩ W v W := by
 show (do pure (.value (← Instr.makeFunc fn (first.map (jz E)) (caps.map (jz E)))) : Sem Next).run P W = _
 rw [← a]; simp [Instr.makeFunc]
def Im (k : IntKind) (op : BinOp) (a b : Int) : Option Value :=
 match op with
 | .eql => some (.bool (a == b))
 | .neq => some (.bool (a != b))
 | .lss => some (.bool (decide (a < b)))
 | .leq => some (.bool (decide (a ≤ b)))
 | .gtr => some (.bool (decide (a > b)))
 | .geq => some (.bool (decide (a ≥ b)))
 | .add => some (.int k (k.wrap (a + b)))
 | .sub => some (.int k (k.wrap (a - b)))
 | .mul => some (.int k (k.wrap (a * b)))
 | _ => none
theorem ko {op : BinOp} {h m : TypeId} {x y : Operand} {k : IntKind} {a b : Int} {v : Value} (j : jz E x = .int k a) (l : jz E y = .int k b) (i : Im k op a b = some v) :
  lD P E ⟨d, .binOp op h x y m, ty, pos, af, g⟩ W v W := by
 show (do let r ← (do eqGuard op h x y (jz E x) (jz E y); binOp op h (jz E x) (jz E y)); pure (.value r) : Sem Next).run P W = _
 rw [j, l]
 cases op <;> simp [Im] at i <;> subst i <;> simp [eqGuard, binOp, Op.intCmp, Op.intArith]
def Pd (op : BinOp) (a b : ByteArray) : Option Value :=
 match op with
 | .eql => some (.bool (a.toList == b.toList))
 | .neq => some (.bool !(a.toList == b.toList))
 | .lss => some (.bool (Op.bytesLess a.toList b.toList))
 | .leq => some (.bool (Op.bytesLess a.toList b.toList || a.toList == b.toList))
 | .gtr => some (.bool !(Op.bytesLess a.toList b.toList || a.toList == b.toList))
 | .geq => some (.bool !(Op.bytesLess a.toList b.toList))
 | _ => none
def vP (a b : ByteArray) : Option ByteArray := if ((a.size + b.size : Nat) : Int) > IntKind.i64.max then none else some (a ++ b)
theorem xd {op : BinOp} {h l : TypeId} {x y : Operand} {a b : ByteArray} {v : Value} (j : jz E x = .string a) (k : jz E y = .string b) (i : Pd op a b = some v) :
  lD P E ⟨d, .binOp op h x y l, ty, pos, af, g⟩ W v W := by
 show (do let r ← (do eqGuard op h x y (jz E x) (jz E y); binOp op h (jz E x) (jz E y)); pure (.value r) : Sem Next).run P W = _
 rw [j, k]
 cases op <;> simp [Pd] at i <;> subst i <;> simp [eqGuard, binOp, Op.stringOp]
theorem zQ {i l : TypeId} {x y : Operand} {a b r : ByteArray} (j : jz E x = .string a) (k : jz E y = .string b) (h : vP a b = some r) :
  lD P E ⟨d, .binOp .add i x y l, ty, pos, af, g⟩ W (.string r) W := by
 show (do let r ← (do eqGuard .add i x y (jz E x) (jz E y); binOp .add i (jz E x) (jz E y)); pure (.value r) : Sem Next).run P W = _
 rw [j, k]
 simp only [vP] at h
 split at h
 ·cases h
 ·rename_i hle; cases h; simp [eqGuard, binOp, Op.stringOp]; simpa using hle
theorem PR {op : BinOp} {h m : TypeId} {x y : Operand} {a b : Bool} (j : P.underlying h = some .bool) (k : jz E x = .bool a) (l : jz E y = .bool b) (i : op = .eql) :
  lD P E ⟨d, .binOp op h x y m, ty, pos, af, g⟩ W (.bool (a == b)) W := by
 subst i
 show (do let r ← (do eqGuard .eql h x y (jz E x) (jz E y); binOp .eql h (jz E x) (jz E y)); pure (.value r) : Sem Next).run P W = _
 rw [k, l]
 simp [eqGuard, binOp, Op.equal, Op.maxDepth, run_equalIn_bool' W 9999 h a b j]
theorem wU {h m : TypeId} {x y : Operand} {a b : Array Value} {r : Bool} (k : jz E x = .agg a) (l : jz E y = .agg b) (i : ∀ W, (eqGuard .eql h x y (.agg a) (.agg b)).run P W = .ok () W) (j : ∀ W, (binOp .eql h (.agg a) (.agg b)).run P W = .ok (.bool r) W) : lD P E ⟨d, .binOp .eql h x y m, ty, pos, af, g⟩ W (.bool r) W := by
 show (do let r ← (do eqGuard .eql h x y (jz E x) (jz E y); binOp .eql h (jz E x) (jz E y)); pure (.value r) : Sem Next).run P W = _
 rw [k, l]; simp [i W, j W]
theorem O9 {h m : TypeId} {x y : Operand} {a b : Array Value} {r : Bool} (k : jz E x = .agg a) (l : jz E y = .agg b) (i : ∀ W, (eqGuard .neq h x y (.agg a) (.agg b)).run P W = .ok () W) (j : ∀ W, (binOp .neq h (.agg a) (.agg b)).run P W = .ok (.bool r) W) : lD P E ⟨d, .binOp .neq h x y m, ty, pos, af, g⟩ W (.bool r) W := by
 show (do let r ← (do eqGuard .neq h x y (jz E x) (jz E y); binOp .neq h (jz E x) (jz E y)); pure (.value r) : Sem Next).run P W = _
 rw [k, l]; simp [i W, j W]
theorem AY {t e : TypeId} (dd : Nat) (b : P.underlying t = some (.pointer e)) (a : Option Addr) (W : World) : (Op.equalIn (dd + 1) t (.pointer a) (.pointer none)).run P W = .ok a.isNone W := by
 cases a <;> simp [Op.equalIn, aV b]
theorem wv {b l e : TypeId} {x y : Operand} {a : Option Addr} (i : P.underlying b = some (.pointer e)) (j : jz E x = .pointer a) (k : jz E y = .pointer none) :
  lD P E ⟨d, .binOp .eql b x y l, ty, pos, af, g⟩ W (.bool a.isNone) W := by
 show (do let r ← (do eqGuard .eql b x y (jz E x) (jz E y); binOp .eql b (jz E x) (jz E y)); pure (.value r) : Sem Next).run P W = _
 rw [j, k]
 have h := AY 9999 i a W
 simp [eqGuard, binOp, Op.equal, show Op.maxDepth = 9999 + 1 from rfl, h]
theorem Da {b l e : TypeId} {x y : Operand} {a : Option Addr} (i : P.underlying b = some (.pointer e)) (j : jz E x = .pointer a) (k : jz E y = .pointer none) :
  lD P E ⟨d, .binOp .neq b x y l, ty, pos, af, g⟩ W (.bool !a.isNone) W := by
 show (do let r ← (do eqGuard .neq b x y (jz E x) (jz E y); binOp .neq b (jz E x) (jz E y)); pure (.value r) : Sem Next).run P W = _
 rw [j, k]
 have h := AY 9999 i a W
 simp [eqGuard, binOp, Op.equal, show Op.maxDepth = 9999 + 1 from rfl, h]
theorem ob {x : Operand} {t : TypeId} {s : ByteArray} (a : P.underlying t = some .string) (b : jz E x = .string s) : lD P E ⟨d, .call ⟨.builtin .len, #[x], #[t]⟩, ty, pos, af, g⟩ W (.int .i64 s.size) W := by
 show (do let d ← resolve (jz E) ⟨.builtin .len, #[x], #[t]⟩ ty; invoke d.target d.args : Sem Next).run P W = _
 simp [resolve, invoke, builtin, Builtin.len_, aV a, b, goInt]
theorem yM {x : Operand} {t e : TypeId} {A : Option Addr} {l c : Nat} (a : P.underlying t = some (.slice e)) (b : jz E x = .slice A l c) : lD P E ⟨d, .call ⟨.builtin .len, #[x], #[t]⟩, ty, pos, af, g⟩ W (.int .i64 l) W := by
 show (do let d ← resolve (jz E) ⟨.builtin .len, #[x], #[t]⟩ ty; invoke d.target d.args : Sem Next).run P W = _
 simp [resolve, invoke, builtin, Builtin.len_, aV a, b, goInt]
theorem lU {α : Type} {R : pA α} {k : Nat} {m : jN} {x : Operand} {t e : TypeId} {v : Value} {l : List α} (b : P.underlying t = some (.slice e)) (h : jz E x = v) (a : Sl R k m v l) : lD P E ⟨d, .call ⟨.builtin .len, #[x], #[t]⟩, ty, pos, af, g⟩ W (.int .i64 l.length) W := by
 obtain ⟨A, c, rfl, _⟩ := a
 exact yM b h
theorem zZ {t : TypeId} {x a : Operand} {m : IntKind} {s : ByteArray} {i : Int} {c : UInt8} (k : P.underlying t = some .string) (l : jz E x = .string s) (h : jz E a = .int m i) (b : 0 ≤ i) (j : s[i.toNat]? = some c) :
  lD P E ⟨d, .index t x a, ty, pos, af, g⟩ W (.int .u8 c.toNat) W := by
 show (do pure (.value (← Instr.index t (jz E x) (jz E a))) : Sem Next).run P W = _
 rw [l, h]
 simp [Instr.index, asIntOf, aV k, b, j]
def lC (P : Program) (t : TypeId) (f off : Nat) : Prop := ∀ b o w, (Instr.fieldAt t (.pointer (some ⟨b, o, none⟩)) f).run P w = .ok (.pointer (some ⟨b, o + off, none⟩)) w
theorem jB {t : TypeId} {x : Operand} {f off b o : Nat} (a : lC P t f off) (h : jz E x = .pointer (some ⟨b, o, none⟩)) : lD P E ⟨d, .fieldAddr t x f, ty, pos, af, g⟩ W (.pointer (some ⟨b, o + off, none⟩)) W := by
 show (do pure (.value (← Instr.fieldAt t (jz E x) f)) : Sem Next).run P W = _
 rw [h]; simp [a b o W]
theorem qH {t : TypeId} {x : Operand} {f off : Nat} {v : Value} {ys : List Value} (zs : List Value) (k : lC P t f off) (n : jz E x = v) (m : At μ v ys) (p : (ys.drop off).take zs.length = zs) :
  ∃ h, At μ h zs ∧ ∀ W, lD P E ⟨d, .fieldAddr t x f, ty, pos, af, g⟩ W h W := by
 obtain ⟨b, o, cs, T, fr, rfl, h1, i⟩ := m
 refine ⟨_, ⟨b, o + off, cs, T, fr, rfl, h1, fun j y a => ?_⟩, fun W => jB k n⟩
 have l : j < zs.length := (bJ.1 a).1
 have := i (off + j) y (by
  rw [← p, dP l, dJ] at a
  exact a)
 rw [ek]
 exact this
theorem mJ {x : Operand} {a : Addr} (b : jz E x = .pointer (some a)) : lD P E ⟨d, .nilCheck x, ty, pos, af, g⟩ W (.pointer (some a)) W := by
 unfold lD execOp
 simp [b]
theorem Hi {α : Type} {R : pA α} {k : Nat} {t e : TypeId} {x h : Operand} {U : IntKind} {v : Value} {i : Int} {l : List α} {x0 : α} (M : P.underlying t = some (.slice e)) (he : ∀ w, (sizeOf e).run P w = .ok k w) (O : jz E x = v) (I : jz E h = .int U i) (L : Sl R k μ v l) (n : 0 ≤ i) (m : l[i.toNat]? = some x0) :
  ∃ p ys, ys.length = k ∧ R μ ys x0 ∧ At μ p ys ∧ ∀ W, lD P E ⟨d, .indexAddr t x h, ty, pos, af, g⟩ W p W := by
 obtain ⟨A, c, rfl, Y, Z, q⟩ := L
 have J : i.toNat < l.length := (bJ.1 m).1
 obtain ⟨b, off, cs, T, fr, rfl, r, s⟩ := q (by omega)
 obtain ⟨ys, u, z, a⟩ := s i.toNat x0 m
 refine ⟨.pointer (some ⟨b, off + i.toNat * k, none⟩), ys, u, z, ⟨b, off + i.toNat * k, cs, T, fr, rfl, r, fun j y Q => a j y Q⟩, fun W => ?_⟩
 show (do pure (.value (← Instr.indexAt t (jz E x) (jz E h))) : Sem Next).run P W = _
 rw [O, I]
 have G : 0 ≤ i ∧ i < (l.length : Int) := ⟨n, by omega⟩
 simp [Instr.indexAt, asIntOf, aV M, he W, G, dA]
theorem qU {α : Type} {enc : α → List Value} {k : Nat} {t e : TypeId} {x a : Operand} {y : IntKind} {v : Value} {i : Int} {l : List α} {x0 : α} (s : P.underlying t = some (.slice e)) (he : ∀ w, (sizeOf e).run P w = .ok k w) (u : jz E x = v) (n : jz E a = .int y i) (r : Sl (Pl enc) k μ v l) (b : 0 ≤ i) (q : l[i.toNat]? = some x0) :
  ∃ p, At μ p (enc x0) ∧ ∀ W, lD P E ⟨d, .indexAddr t x a, ty, pos, af, g⟩ W p W := by
 obtain ⟨p, ys, h1, h, j, m⟩ := Hi (d := d) (ty := ty) (pos := pos) (af := af) (g := g) s he u n r b q
 cases h
 exact ⟨p, j, m⟩
theorem H4 (P : Program) {W : World} {b off : Nat} {cs : Array Value} {T : TypeId} {fr : Nat × Nat} (a : W.heap[b]? = some (.cells cs T fr)) (ys : List Value) (g : ∀ j y, ys[j]? = some y → cs[off + j]? = some y) :
  (loadCells ⟨b, off, none⟩ ys.length).run P W = .ok ys.toArray W :=
 ig W ⟨b, off, none⟩ ys (fun j v d => by rw [dA, gk W b (off + j) cs T fr a]; exact g j v d)
theorem BG {W : World} {t : TypeId} {b off : Nat} {cs : Array Value} {T : TypeId} {fr : Nat × Nat} (a : ∀ w, (isAgg t).run P w = .ok true w) (ys : List Value) (d : ∀ w, (sizeOf t).run P w = .ok ys.length w) (g : W.heap[b]? = some (.cells cs T fr)) (h : ∀ j y, ys[j]? = some y → cs[off + j]? = some y) : (Instr.loadAt t (.pointer (some ⟨b, off, none⟩))).run P W = .ok (.agg ys.toArray) W := by
 simp [Instr.loadAt, Instr.sureAddr, loadVar, a W, d W, H4 P g ys h]
theorem BB {W : World} {t : TypeId} {b off : Nat} {cs : Array Value} {T : TypeId} {fr : Nat × Nat} (a : ∀ w, (isAgg t).run P w = .ok false w) {y : Value} (d : W.heap[b]? = some (.cells cs T fr)) (h : cs[off]? = some y) : (Instr.loadAt t (.pointer (some ⟨b, off, none⟩))).run P W = .ok y W := by
 have g : W.cell? ⟨b, off, none⟩ = some y := by rw [gk W b off cs T fr d]; exact h
 simp [Instr.loadAt, Instr.sureAddr, loadVar, a W, load, Sem.run, g]
theorem jt {t : TypeId} {x : Operand} {a v : Value} (h : jz E x = a) (b : (Instr.loadAt t a).run P W = .ok v W) : lD P E ⟨d, .load t x, ty, pos, af, g⟩ W v W := by
 show (do pure (.value (← Instr.loadAt t (jz E x))) : Sem Next).run P W = _
 rw [h]; simp [b]
def nA (μ : jN) (A : List (Nat × Obj)) (W : World) : Prop := (∀ b o, μ b = some o → W.heap[b]? = some o) ∧ ∀ b o, (b, o) ∈ A → W.heap[b]? = some o
theorem ST.has (h : ST dd F w W μ L) : nA μ L W := ⟨h.mem, fun b o a => (h.box b o a).1⟩
theorem nA.sub {μ' : jN} {A A' : List (Nat × Obj)} (h : nA μ A W) (g : jR μ' μ) (d : ∀ p, p ∈ A' → p ∈ A) : nA μ' A' W := ⟨fun b o a => h.1 b o (g b o a), fun b o a => h.2 b o (d _ a)⟩
theorem kl {A : List (Nat × Obj)} (hH : nA μ A W) {t : TypeId} {p : Value} {ys : List Value} (hp : At μ p ys) (d : ∀ w, (isAgg t).run P w = .ok true w) (g : ∀ w, (sizeOf t).run P w = .ok ys.length w) :
  (Instr.loadAt t p).run P W = .ok (.agg ys.toArray) W := by
 obtain ⟨b, off, cs, T, fr, rfl, h1, a⟩ := hp
 exact BG d ys g (hH.1 _ _ h1) a
theorem oO {A : List (Nat × Obj)} (hH : nA μ A W) {t : TypeId} {p y : Value} (hp : At μ p [y]) (d : ∀ w, (isAgg t).run P w = .ok false w) :
  (Instr.loadAt t p).run P W = .ok y W := by
 obtain ⟨b, off, cs, T, fr, rfl, h1, a⟩ := hp
 exact BB d (hH.1 _ _ h1) (a 0 y rfl)
theorem jA {A : List (Nat × Obj)} (hH : nA μ A W) {t : TypeId} {b off : Nat} {cs : Array Value} {T : TypeId} {fr : Nat × Nat} (h : (b, Obj.cells cs T fr) ∈ A) (ys : List Value) (k : (cs.toList.drop off).take ys.length = ys) (g : ∀ w, (isAgg t).run P w = .ok true w) (i : ∀ w, (sizeOf t).run P w = .ok ys.length w) : (Instr.loadAt t (.pointer (some ⟨b, off, none⟩))).run P W = .ok (.agg ys.toArray) W :=
 BG g ys i (hH.2 _ _ h) (fun j y a => by
  have d : j < ys.length := (bJ.1 a).1
  rw [← k, dP d, dJ] at a
  simpa using a)
theorem jG {A : List (Nat × Obj)} (hH : nA μ A W) {t : TypeId} {b off : Nat} {cs : Array Value} {T : TypeId} {fr : Nat × Nat} (d : (b, Obj.cells cs T fr) ∈ A) {y : Value} (g : cs[off]? = some y) (a : ∀ w, (isAgg t).run P w = .ok false w) : (Instr.loadAt t (.pointer (some ⟨b, off, none⟩))).run P W = .ok y W :=
 BB a (hH.2 _ _ d) g
theorem mr {t : TypeId} {a : Array (Nat × Operand)} {qs : Array (Nat × Value)} {v : Value} (b : a.map (fun (i, x) => (i, jz E x)) = qs) (h : ∀ W, (Instr.build t qs).run P W = .ok v W) : lD P E ⟨d, .build t a, ty, pos, af, g⟩ W v W := by
 show (do pure (.value (← Instr.build t (a.map fun (i, x) => (i, jz E x)))) : Sem Next).run P W = _
 rw [b]; simp [h W]
theorem lM {t : TypeId} {z cs : Array Value} {fs : Array Field} {qs : Array (Nat × Value)} {pl : Array (Nat × Nat)} (d : ∀ w, (zeroValue t).run P w = .ok (.agg z) w) (b : P.underlying t = some (.struct fs)) (hp : ∀ w, (fs.mapM fun f => do pure (f.offset, ← sizeOf f.type) : Sem (Array (Nat × Nat))).run P w = .ok pl w) (a : Instr.fill (pl[·]?) z qs.toList = some cs) (W : World) : (Instr.build t qs).run P W = .ok (.agg cs) W := by
 simp only [Instr.build, bY, d W, bK, aV b, Value.cells]
 rw [hp W]
 simp only [bK, a, cX]
end
theorem Ed {α : Type} : ∀ (a : Ask α) (w : World), w.drawn ≤ (w.ask a).2.drawn
 | .done a, w => by simp [World.ask]
 | .ask b range k, w => by
  unfold World.ask
  dsimp only
  split
  ·exact Ed (k 0) w
  ·refine dz (iA w.drawn) ?_
   exact Ed _ { w with drawn := w.drawn + 1 }
theorem MU (w : World) (c : Sys) : w.drawn ≤ (w.sys c).2.drawn := by
 have h := Ed (Kernel.perform c w.os) w
 unfold World.sys
 generalize w.ask (Kernel.perform c w.os) = r at *
 obtain ⟨⟨a, b⟩, d⟩ := r
 cases a <;> simp at h ⊢ <;> exact h
theorem F7 {p : Program} {w d : World} {a : Addr} {u : TypeId} {k : Addr} {v : Value} {b : Bool} {l : List Addr} (h : w.viewStore p a u k v b = .ok (d, l)) : d.drawn = w.drawn := by
 unfold World.viewStore at h
 simp only [bind, Except.bind, pure, Except.pure] at h
 split at h
 ·cases h
 ·split at h
  ·cases h
  ·split at h
   ·split at h
    ·cases h
    ·split at h
     ·cases h
     ·cases h; rfl
   ·cases h
theorem Hm {p : Program} {w d : World} {a : Addr} {v : Value} {b : Bool} {l : List Addr} (h : w.farStore p a v b = .ok (d, l)) : d.drawn = w.drawn := by
 unfold World.farStore at h
 split at h
 ·split at h
  ·rename_i h1; cases h; exact F7 h1
  ·cases h
 ·cases h
theorem nU {α : Type} {p : Program} : ∀ (s : Sem α) (w d : World) (a : α), s.run p w = .ok a d → w.drawn ≤ d.drawn
 | .pure a, w, d, b, h => by simp only [Sem.run] at h; cases h; exact aU _
 | .load m a k, w, d, b, h => by
  simp only [Sem.run] at h
  split at h
  ·exact nU _ _ _ _ h
  ·split at h
   ·exact nU _ _ _ _ h
   ·cases h
 | .store m a v k, w, d, b, h => by
  have key : ∀ (r : Result α) i, r = .ok b d → (r = (match w.cell? a with
    | some _ => if w.frozen? a then .halt i w else k.run p (w.setCell a v)
    | none => match w.farStore p a v (m == .atomic) with
     | .ok (w, _) => k.run p w
     | .error h => .halt h w)) → w.drawn ≤ d.drawn := by
   intro r i j h
   rw [j] at h
   split at h
   ·split at h
    ·cases h
    ·have := nU k _ _ _ h.symm
     simpa [World.setCell] using this
   ·split at h
    ·rename_i h1
     have g := nU k _ _ _ h.symm
     rw [Hm h1] at g
     exact g
    ·cases h
  cases v with
  | agg cs => simp only [Sem.run] at h; cases h
  | tuple cs => simp only [Sem.run] at h; cases h
  | _ => exact key _ _ h (by simp only [Sem.run]; rfl)
 | .new o k, w, d, b, h => by simp only [Sem.run] at h; have := nU (k _) _ _ _ h; exact this
 | .shape r k, w, d, b, h => by simp only [Sem.run] at h; exact nU _ _ _ _ h
 | .freeze a n k, w, d, b, h => by
  simp only [Sem.run] at h
  have := nU k _ _ _ h
  unfold World.freeze at this
  split at this <;> exact this
 | .frozen a k, w, d, b, h => by simp only [Sem.run] at h; exact nU _ _ _ _ h
 | .getObj r k, w, d, b, h => by
  simp only [Sem.run] at h
  split at h <;> try (cases h; done)
  exact nU _ _ _ _ h
 | .setObj r o k, w, d, b, h => by
  simp only [Sem.run] at h
  split at h <;> try (cases h; done)
  have := nU k _ _ _ h
  exact this
 | .choose q k, w, d, b, h => by
  simp only [Sem.run] at h
  split at h
  ·exact nU _ _ _ _ h
  ·exact dz (iA _) (nU _ _ _ _ h)
 | .sys c k, w, d, b, h => by
  simp only [Sem.run] at h
  exact dz (MU w c) (nU _ _ _ _ h)
 | .program k, w, d, b, h => by simp only [Sem.run] at h; exact nU _ _ _ _ h
 | .mark m k, w, d, b, h => by simp only [Sem.run] at h; exact nU k _ _ _ h
 | .halt x, w, d, b, h => by simp only [Sem.run] at h; cases h
end Go.Proofs.YtjjjihkifgdhgaaGreat
namespace Go.Proofs.YtjjjihkifgdhgaaGreat
open Go.RowKit
variable [M : Md]
variable {dd : Bool}
section
variable {P : Program} {n : Nat} {Q : nr} {E : Nat → Value} {W : World} {ops : Array Oper} {rest : List Oper}
 {d : Option Nat} {ty : TypeId} {pos : String} {af : Array Edge} {g : Option (Nat × Bool)}
 {F : Nat → Prop} {w : World} {μ : jN} {L : List (Nat × Obj)}
def mL (P : Program) (E : Nat → Value) (o : Oper) (W : World) (K : Value → World → Prop) : Prop :=
 (∃ v W', (execOp (jz E) o).run P W = .ok (.value v) W' ∧ K v W') ∨ (∃ W', (execOp (jz E) o).run P W = .ok .skip W' ∧ K undef W') ∨
 (∃ f args, (execOp (jz E) o).run P W = .ok (.enter f args) W ∧ Calls P f args W fun e a => ∃ v, e = .returned v ∧ K v a)
theorem mL.mono {o : Oper} {K K' : Value → World → Prop} (h : mL P E o W K) (hk : ∀ v W', K v W' → K' v W') : mL P E o W K' := by
 rcases h with ⟨v, W', h1, a⟩ | ⟨W', h1, a⟩ | ⟨f, args, h1, a⟩
 ·exact .inl ⟨v, W', h1, hk _ _ a⟩
 ·exact .inr (.inl ⟨W', h1, hk _ _ a⟩)
 ·exact .inr (.inr ⟨f, args, h1, cT a (fun _ _ ⟨v, b, d⟩ => ⟨v, b, hk _ _ d⟩)⟩)
theorem QF {o : Oper} {dd : Nat} (hw : rE n ops E o) (d : o.dst = some dd) (g : dd < n) (h : mL P E o W fun v W' => LW P n ops Q rest (nm E dd v) W') : LW P n ops Q (o :: rest) E W := by
 rcases h with ⟨v, W', h1, b⟩ | ⟨W', h1, b⟩ | ⟨f, args, h1, b⟩
 ·exact M3 hw d g h1 b
 ·intro a ha
  unfold wpListIn
  rw [aZ (hw.of ha)]
  unfold Oper.wpIn
  refine ⟨fun _ _ => trivial, ?_⟩
  rw [ha.eval, xk h1 (by simp), Oper.uponIn_skip, d]
  exact b _ (ha.put g _)
 ·exact Ow hw d g h1 b
theorem Sd {o : Oper} (hw : rE n ops E o) (d : o.dst = none) (h : mL P E o W fun _ W' => LW P n ops Q rest E W') : LW P n ops Q (o :: rest) E W := by
 rcases h with ⟨v, W', h1, b⟩ | ⟨W', h1, b⟩ | ⟨f, args, h1, b⟩
 ·intro a ha
  unfold wpListIn
  rw [aZ (hw.of ha)]
  unfold Oper.wpIn
  refine ⟨fun _ _ => trivial, ?_⟩
  rw [ha.eval, xk h1 (by simp), Oper.uponIn_value, d]
  exact b _ (ha.yF _)
 ·exact N0 hw d h1 b
 ·intro a ha
  unfold wpListIn
  rw [aZ (hw.of ha)]
  unfold Oper.wpIn
  refine ⟨fun _ _ => trivial, ?_⟩
  rw [ha.eval, xk h1 (by simp), Oper.uponIn_enter]
  refine He (cT b ?_)
  rintro e i ⟨v, rfl, g⟩
  simp only [d]
  exact g _ (ha.yF _)
theorem kq {K : Value → World → Prop} {t : TypeId} {x : Operand} {v : Value} (a : ST dd F w W μ L) (i : jz E x = v) (h : ∀ W' b, ST dd F w W' μ ((b, .cells v.cells t (0, 0)) :: L) → K (.pointer (some ⟨b, 0, none⟩)) W') : mL P E ⟨d, .box t x, ty, pos, af, g⟩ W K :=
 .inl ⟨.pointer (some ⟨W.heap.size, 0, none⟩), W.alloc (.cells v.cells t (0, 0)), by
   show (do pure (.value (← Instr.box t (jz E x))) : Sem Next).run P W = _
   rw [i]
   simp [Instr.box, newVar, newRow, newObj, Sem.run], h _ _ (a.alloc _)⟩
theorem kx {K : Value → World → Prop} {t : TypeId} {z : Value} (a : ST dd F w W μ L) (i : ∀ w, (zeroValue t).run P w = .ok z w) (h : ∀ W' b, ST dd F w W' μ ((b, .cells z.cells t (0, 0)) :: L) → K (.pointer (some ⟨b, 0, none⟩)) W') : mL P E ⟨d, .alloc t, ty, pos, af, g⟩ W K :=
 .inl ⟨.pointer (some ⟨W.heap.size, 0, none⟩), W.alloc (.cells z.cells t (0, 0)), by
   show (do pure (.value (← Instr.alloc t true (.tuple #[]))) : Sem Next).run P W = _
   simp [Instr.alloc, i W, newVar, newRow, newObj, Sem.run], h _ _ (a.alloc _)⟩
theorem GX {t e : TypeId} {m k : Nat} {z : Value} {qs : Array (Nat × Value)} {cs : Array Value} (g : P.underlying t = some (.slice e)) (d : ∀ w, (sizeOf e).run P w = .ok k w) (h : ∀ w, (zeroValue e).run P w = .ok z w) (hm : m * k ≤ 16777216) (a : Instr.fill (fun i => some (i * k, k)) ((Array.range (m * k)).map (fun i => (if m * k = 0 then (#[] : Array Value) else z.cells)[i % (if m * k = 0 then (#[] : Array Value) else z.cells).size]!)) qs.toList = some cs) (W : World) :
  (Instr.buildSlice t m qs).run P W = .ok (.slice (some ⟨W.heap.size, 0, none⟩) m m) (W.alloc (.cells cs e (0, 0))) := by
 simp only [Instr.buildSlice, bY, aV g, bK, d W]
 rw [aY (by omega)]
 by_cases b : m * k = 0
 ·simp only [b, aM] at a ⊢
  simp only [bY, cX, bK, a]
  simp [newRow, newObj, Sem.run]
 ·simp only [b, aH] at a ⊢
  simp only [bY, h W, cX, bK, a]
  simp [newRow, newObj, Sem.run]
theorem kp {K : Value → World → Prop} {t e : TypeId} {m : Nat} {j : Array (Nat × Operand)} {qs : Array (Nat × Value)} {cs : Array Value} (a : ST dd F w W μ L) (k : j.map (fun (i, x) => (i, jz E x)) = qs) (l : ∀ W, (Instr.buildSlice t m qs).run P W = .ok (.slice (some ⟨W.heap.size, 0, none⟩) m m) (W.alloc (.cells cs e (0, 0)))) (h : ∀ W' b, ST dd F w W' μ ((b, .cells cs e (0, 0)) :: L) → K (.slice (some ⟨b, 0, none⟩) m m) W') : mL P E ⟨d, .buildSlice t m j, ty, pos, af, g⟩ W K :=
 .inl ⟨.slice (some ⟨W.heap.size, 0, none⟩) m m, W.alloc (.cells cs e (0, 0)), by
   show (do pure (.value (← Instr.buildSlice t m (j.map fun (i, x) => (i, jz E x)))) : Sem Next).run P W = _
   rw [k]
   simp [l W], h _ _ (a.alloc _)⟩
theorem ST.store {A B : List (Nat × Obj)} {b : Nat} {cs : Array Value} {t : TypeId} (d : ST dd F w W μ (A ++ (b, .cells cs t (0, 0)) :: B)) (a : Array Value) :
  ST dd F w (W.setRow b a) μ (A ++ (b, .cells a t (0, 0)) :: B) := by
 have g := (d.box b _ (by simp : (b, Obj.cells cs t (0, 0)) ∈ A ++ (b, .cells cs t (0, 0)) :: B)).1
 refine d.put ⟨rfl, rfl, rfl, aU _, by simp [World.setRow]⟩ (fun k hk => ?_) (setRow_heap W b cs a t (0, 0) g)
 simp only [World.setRow, dO]
 rw [aY (fun e => hk e.symm)]
theorem BJ (P : Program) {W : World} {t : TypeId} {b off : Nat} {cs : Array Value} {T : TypeId} (v : Value) (a : ∀ w, (sizeOf t).run P w = .ok v.cells.size w) (h1 : ∀ u ∈ v.cells.toList, u.oneCell' = true) (d : W.heap[b]? = some (.cells cs T (0, 0))) (g : off + v.cells.size ≤ cs.size) : (Instr.storeAt t (.pointer (some ⟨b, off, none⟩)) v).run P W = .ok () (W.setRow b (cs.toList.take off ++ v.cells.toList ++ cs.toList.drop (off + v.cells.size)).toArray) := by
 have := iB (P := P) b off T v.cells.toList 0 cs W d (by simpa using g) h1
 simp [Instr.storeAt, Instr.sureAddr, storeVar, a W]
 simpa using this
theorem PO {K : Value → World → Prop} (A : List (Nat × Obj)) {B : List (Nat × Obj)} {t : TypeId} {x y : Operand} (v : Value) {b off : Nat} {cs : Array Value} {T : TypeId} (a : Array Value) (i : ST dd F w W μ (A ++ (b, .cells cs T (0, 0)) :: B)) (n : jz E x = .pointer (some ⟨b, off, none⟩)) (p : jz E y = v) (j : ∀ w, (sizeOf t).run P w = .ok v.cells.size w) (h1 : ∀ u ∈ v.cells.toList, u.oneCell' = true) (m : off + v.cells.size ≤ cs.size) (l : (cs.toList.take off ++ v.cells.toList ++ cs.toList.drop (off + v.cells.size)).toArray = a) (h : ∀ W', ST dd F w W' μ (A ++ (b, .cells a T (0, 0)) :: B) → K undef W') : mL P E ⟨d, .store t x y, ty, pos, af, g⟩ W K :=
 .inr (.inl ⟨W.setRow b a, by
   show (do Instr.storeAt t (jz E x) (jz E y); pure .skip : Sem Next).run P W = _
   have k := (i.box b _ (by simp : (b, Obj.cells cs T (0, 0)) ∈ A ++ (b, .cells cs T (0, 0)) :: B)).1
   rw [n, p]
   simp only [bY, BJ P v j h1 k m, l, bK, cX], h _ (i.store a)⟩)
def ke (dd : Bool) (P : Program) (f : FuncId) (args : List Value) (w : World) (v : Value) : Prop := Calls P f args.toArray w fun e a => e = .returned v ∧ Ex dd w a
theorem MY {f : FuncId} {fv : Operand} {ax : Array Operand} {ats : Array TypeId} {caps args : Array Value} (a : jz E fv = .func (.func f) #[] caps) (he : ∀ args w, (callFunc f args).run P w = .ok (.enter f args) w) (ha : ax.map (jz E) ++ caps = args) :
  (execOp (jz E) ⟨d, .call ⟨.value fv, ax, ats⟩, ty, pos, af, g⟩).run P W = .ok (.enter f args) W := by
 show (do let d ← resolve (jz E) ⟨.value fv, ax, ats⟩ ty; invoke d.target d.args : Sem Next).run P W = _
 rw [← ha]
 simp only [resolve, a, Deferred.ofValue, bY, cX, bK, invoke]
 simp [he]
theorem Ev {K : Value → World → Prop} {f : FuncId} {fv : Operand} {ax : Array Operand} {ats : Array TypeId} {caps args : Array Value} (a : jz E fv = .func (.func f) #[] caps) (he : ∀ args w, (callFunc f args).run P w = .ok (.enter f args) w) (ha : ax.map (jz E) ++ caps = args) (h : Calls P f args W fun e b => ∃ v, e = .returned v ∧ K v b) : mL P E ⟨d, .call ⟨.value fv, ax, ats⟩, ty, pos, af, g⟩ W K :=
 .inr (.inr ⟨f, args, MY a he ha, h⟩)
theorem Ey {K : Value → World → Prop} {f : FuncId} {fv : Operand} {ax : Array Operand} {ats : Array TypeId} {args : List Value} {v : Value} (a : ST dd F w W μ L) (j : jz E fv = .func (.func f) #[] #[]) (he : ∀ args w, (callFunc f args).run P w = .ok (.enter f args) w) (ha : (ax.map (jz E) ++ (#[] : Array Value)) = args.toArray) (i : ke dd P f args W v) (h : ∀ W', ST dd F w W' μ L → K v W') : mL P E ⟨d, .call ⟨.value fv, ax, ats⟩, ty, pos, af, g⟩ W K :=
 Ev j he ha (cT i (fun _ _ ⟨h1, b⟩ => ⟨v, h1, h _ (a.F3 b)⟩))
def jM {α : Type} (e : TypeId) (enc : α → List Value) (k : Nat) (v : Value) (l : List α) (R : List (Nat × Obj)) : Prop :=
 (v = .slice none 0 0 ∧ l = [] ∧ R = []) ∨
 ∃ g cap a, v = .slice (some ⟨g, 0, none⟩) l.length cap ∧ R = [(g, .cells a e (0, 0))] ∧ l.length ≤ cap ∧ cap ≤ maxLen ∧ a.size = cap * k ∧ a.toList.take (l.length * k) = (l.map enc).flatten
theorem pJ {α : Type} {enc : α → List Value} {k : Nat} (hk : ∀ x, (enc x).length = k) : ∀ l : List α, (l.map enc).flatten.length = l.length * k
 | [] => by simp
 | x :: l => by simp [pJ hk l, hk x, cL, Nat.add_comm]
theorem vV {α : Type} {enc : α → List Value} {k : Nat} (hk : ∀ x, (enc x).length = k) : ∀ (l : List α) (i : Nat) (x : α), l[i]? = some x → ∀ j y, (enc x)[j]? = some y → (l.map enc).flatten[i * k + j]? = some y
 | [], i, x, h => by cases h
 | z :: l, 0, x, h => by
  simp at h; subst h
  intro j y a
  have b : j < (enc z).length := (bJ.1 a).1
  simp [fJ, b]
  rw [cU b] at a
  simpa using a
 | z :: l, i + 1, x, h => by
  intro j y a
  have := vV hk l i x (by simpa using h) j y a
  simp only [bD, bO]
  rw [eJ (by rw [hk z]; have := Nat.le_mul_of_pos_left k (Nat.succ_pos i); simp [cL] at *; omega), hk z]
  rw [show (i + 1) * k + j - k = i * k + j by rw [cL]; omega]
  exact this
theorem Fz {α : Type} {enc : α → List Value} {k : Nat} (hk : ∀ x, (enc x).length = k) : ∀ (l : List α) (q : Nat) (y : Value), (l.map enc).flatten[q]? = some y → ∃ i x j, l[i]? = some x ∧ (enc x)[j]? = some y ∧ q = i * k + j
 | [], q, y, h => by simp at h
 | z :: l, q, y, h => by
  simp only [bD, bO] at h
  by_cases b : q < k
  ·rw [fR (by rw [hk]; exact b)] at h
   exact ⟨0, z, q, rfl, h, by simp⟩
  ·rw [eJ (by rw [hk]; omega), hk] at h
   obtain ⟨i, x, j, h1, a, d⟩ := Fz hk l (q - k) y h
   exact ⟨i + 1, x, j, by simpa using h1, a, by rw [cL]; omega⟩
theorem jM.nil {α : Type} (e : TypeId) (enc : α → List Value) (k : Nat) : jM e enc k (.slice none 0 0) [] [] := .inl ⟨rfl, rfl, rfl⟩
theorem jM.sl {α : Type} {e : TypeId} {enc : α → List Value} {k : Nat} {v : Value} {l : List α} {R : List (Nat × Obj)} {m : jN} (h : jM e enc k v l R) (hk : ∀ x, (enc x).length = k) (hm : ∀ b o, (b, o) ∈ R → m b = some o) : Sl (Pl enc) k m v l := by
 rcases h with ⟨rfl, rfl, rfl⟩ | ⟨g, cap, a, rfl, rfl, h1, n, s, p⟩
 ·exact Sl.nil _ _ _
 ·refine ⟨_, cap, rfl, h1, n, fun _ => ⟨g, 0, a, e, (0, 0), rfl, hm _ _ (by simp), fun i x q => ⟨enc x, hk x, rfl, fun j y r => ?_⟩⟩⟩
  have := vV hk l i x q j y r
  rw [← p] at this
  have d : i * k + j < l.length * k := by
   have := (bJ.1 this).1
   simp at this; omega
  rw [dP d] at this
  simpa using this
theorem jM.len {α : Type} {e : TypeId} {enc : α → List Value} {k : Nat} {v : Value} {l : List α} {R : List (Nat × Obj)} (h : jM e enc k v l R) : l.length ≤ 9223372036854775807 := by
 rcases h with ⟨rfl, rfl, rfl⟩ | ⟨g, cap, a, rfl, rfl, h1, b, d, i⟩
 ·simp
 ·unfold maxLen at b; omega
theorem jM.fr {α : Type} {e : TypeId} {enc : α → List Value} {k : Nat} {v : Value} {l : List α} {R X Y : List (Nat × Obj)} (h : jM e enc k v l R) (a : ST dd kK w W μ (X ++ (R ++ Y))) : Fr w.heap.size v := by
 rcases h with ⟨rfl, rfl, rfl⟩ | ⟨g, cap, i, rfl, rfl, h1, j, m, n⟩
 ·exact Fr.nil _
 ·intro b d
  simp [Value.ownBlock] at d
  subst d
  rcases (a.box g _ (by simp; exact .inr (.inl rfl))).2.2 with h | h
  ·exact h
  ·exact h.elim
theorem jM.lit {α : Type} {e : TypeId} {enc : α → List Value} {k b m : Nat} {l : List α} {cs : Array Value} (hm : l.length = m) (d : m ≤ maxLen) (g : cs.toList = (l.map enc).flatten) (a : cs.size = m * k) : jM e enc k (.slice (some ⟨b, 0, none⟩) m m) l [(b, .cells cs e (0, 0))] := by
 subst hm
 refine .inr ⟨b, _, cs, rfl, rfl, aU _, d, a, ?_⟩
 rw [← g, ← a]
 exact dB (by rw [cZ]; exact aU _)
def lP {α : Type} (a : Nat) (l m : List α) : Option (List α) := if (l.length + m.length) * a ≤ 140737488355328 ∧ l.length + m.length ≤ maxLen then some (l ++ m) else none
theorem IW {K : Value → World → Prop} {α : Type} {e t : TypeId} {enc : α → List Value} {k ab : Nat} {z v vs : Value} {l m r : List α} {R : List (Nat × Obj)} (X : List (Nat × Obj)) {Y : List (Nat × Obj)} {x y : Operand} {i : TypeInfo} (p : ST dd F w W μ (X ++ (R ++ Y))) (hk : ∀ x, (enc x).length = k) (b2 : 0 < k) (h1 : ∀ x, ∀ u ∈ enc x, u.oneCell' = true) (ht : P.underlying t = some (.slice e)) (hi : P.info? e = some i) (hz : i.zero = some z) (b6 : z.cells.size = k) (b3 : i.size = k) (b0 : i.bytes = ab) (hx : jz E x = v) (hy : jz E y = vs) (hR : jM e enc k v l R) (hs : Sl (Pl enc) k (hp W) vs m) (n : lP ab l m = some r) (h : ∀ W' v' R', ST dd F w W' μ (X ++ (R' ++ Y)) → jM e enc k v' r R' → K v' W') : mL P E ⟨d, .call ⟨.builtin .append, #[x, y], #[t, t]⟩, ty, pos, af, g⟩ W K := by
 unfold lP at n
 split at n
 case isFalse => cases n
 rename_i aj
 cases n
 have aa : ∀ (V : Value) (W' : World), (Builtin.append_ #[t, t] ty #[v, vs]).run P W = .ok V W' → (execOp (jz E) ⟨d, .call ⟨.builtin .append, #[x, y], #[t, t]⟩, ty, pos, af, g⟩).run P W = .ok (.value V) W' := by
  intro V W' hV
  show (do let d ← resolve (jz E) ⟨.builtin .append, #[x, y], #[t, t]⟩ ty; invoke d.target d.args : Sem Next).run P W = _
  simp [resolve, invoke, builtin, hx, hy, hV]
 obtain ⟨A, c, rfl, ba, bb, b1⟩ := hs
 have a8 : W.ownsRow 0 e k v l.length (l.map enc).flatten := by
  refine ⟨pJ hk l, ?_⟩
  rcases hR with ⟨rfl, rfl, rfl⟩ | ⟨g, cap, J, rfl, rfl, h1, h2, h3, h4⟩
  ·exact .inl ⟨rfl, rfl⟩
  ·exact .inr ⟨g, cap, J, rfl, ep _, (p.box g _ (by simp)).1, h1, h2, h3, h4⟩
 have au : m.length = 0 ∨ ∃ ad, A = some ad ∧ ∀ j u, (m.map enc).flatten[j]? = some u → W.cell? (ad.add j) = some u := by
  rcases ee m.length with O | O
  ·exact .inl O
  ·obtain ⟨b, off, cs, T, fr, rfl, h6, h7⟩ := b1 O
   refine .inr ⟨⟨b, off, none⟩, rfl, fun j u hu => ?_⟩
   obtain ⟨i, x, q, h8, h9, rfl⟩ := Fz hk m j u hu
   obtain ⟨ys, _, aw, ay⟩ := h7 i x h8
   cases aw
   rw [dA, gk W b (off + (i * k + q)) cs T fr h6, ← ek]
   exact ay q u h9
 have ar : ∀ u ∈ (m.map enc).flatten, u.oneCell' = true := by
  intro u hu
  obtain ⟨ys, b5, b4⟩ := iO.1 hu
  obtain ⟨x, _, rfl⟩ := bF.1 b5
  exact h1 x u b4
 by_cases ao : m.length = 0
 ·have hm : m = [] := aR ao
  subst hm
  have hr : (Builtin.append_ #[t, t] ty #[v, .slice A 0 c]).run P W = .ok v W := by
   rcases a8.2 with ⟨rfl, O⟩ | ⟨g, cap, J, rfl, _, hg, ap, _, bc, _⟩
   ·cases A with
    | none => simp [Builtin.append_, aV ht, sizeOf, typeInfo, hi, Builtin.lenOf, Builtin.firstCells]
    | some ad => simp [Builtin.append_, aV ht, sizeOf, typeInfo, hi, Builtin.lenOf, Builtin.firstCells, loadCells, loadCellsFrom]
   ·cases A with
    | none => simp [Builtin.append_, aV ht, sizeOf, typeInfo, hi, Builtin.lenOf, Builtin.firstCells, ap, storeCells]
    | some ad => simp [Builtin.append_, aV ht, sizeOf, typeInfo, hi, Builtin.lenOf, Builtin.firstCells, loadCells, loadCellsFrom, ap, storeCells]
  exact .inl ⟨v, W, aa _ _ (by simpa using hr), by simpa using h W v R p (by simpa using hR)⟩
 rcases au with O | ⟨ad, rfl, a1⟩
 ·exact absurd O ao
 obtain ⟨v', W', hr, ah, s, b9, M⟩ := run_append_own_at (P := P) W 0 t ty e i z k ab ht hi hz b3 b0 b6 b2 v l.length (l.map enc).flatten a8 ad m.length c (m.map enc).flatten (pJ hk m) a1 ar aj.2 aj.1 (ep _)
 have ae := nU _ _ _ _ hr
 refine .inl ⟨v', W', aa _ _ hr, ?_⟩
 have hlen : (l ++ m).length = l.length + m.length := by simp
 rcases ah.2 with ⟨_, O⟩ | ⟨U, a6, a7, rfl, _, ag, b7, ak, al, av⟩
 ·omega
 have ai : jM e enc k (.slice (some ⟨U, 0, none⟩) (l.length + m.length) a6) (l ++ m) [(U, .cells a7 e (0, 0))] :=
  .inr ⟨U, a6, a7, by rw [hlen], rfl, by omega, ak, al, by rw [hlen, av]; simp⟩
 refine h W' _ _ ?_ ai
 have aq := p.nd
 rcases hR with ⟨rfl, rfl, rfl⟩ | ⟨g, cap, J, rfl, rfl, q1, q2, q3, q4⟩
 ·-- nil: a new block
  have Z : W.heap.size ≤ U := by
   rcases M with h | h <;> simp [Value.ownBlock] at h
   omega
  have hex : Ex dd W W' := ⟨s.os, s.tape, s.output, sO.of ae, s.size, fun b n => s.block b n (by simp [Value.ownBlock])⟩
  have h1 := p.F3 hex
  refine ⟨h1.os, h1.tape, h1.output, h1.drawn, h1.size, h1.lO, h1.mem, fun b o n => ?_, ?_⟩
  ·simp only [aN, bM] at n
   rcases n with n | n | n
   ·exact h1.box b o (by simp [n])
   ·cases n
    refine ⟨ag, ?_, .inl (dz p.size Z)⟩
    cases hm : μ U with
    | none => rfl
    | some x => have := p.Co hm; omega
   ·exact h1.box b o (by simp [n])
  ·simp only [aP, cE, bD, fD] at aq ⊢
   refine (fT eE).2 (cR.2 ⟨fun hm => ?_, aq⟩)
   rw [← cE] at hm
   obtain ⟨⟨b, o⟩, n, L⟩ := bF.1 hm
   have aE : (b, o) ∈ X ++ ([] ++ Y) := by simpa using n
   have := p.DI aE
   simp at L
   omega
 ·by_cases an : U = g
  ·subst an
   have O : ST dd F w W μ (X ++ (U, Obj.cells J e (0, 0)) :: Y) := by simpa using p
   have hold : ∀ b, b < W.heap.size → b ≠ U → W'.heap[b]? = W.heap[b]? := fun b n I => s.block b n (by simp [Value.ownBlock]; exact I)
   have G := O.nd
   simp only [cE, bD] at G
   have I : ∀ b o, (b, o) ∈ X ++ Y → b ≠ U := fun b o n L => by
    subst L
    rcases aN.1 n with n | n
    ·exact (bT.1 G).2.2 b (bF.2 ⟨_, n, rfl⟩) b (by simp) rfl
    ·exact (cR.1 (bT.1 G).2.1).1 (bF.2 ⟨_, n, rfl⟩)
   have Q := O.box U (Obj.cells J e (0, 0)) (by simp)
   refine ⟨s.os.trans p.os, s.tape.trans p.tape, s.output.trans p.output, sO.trans p.drawn (sO.of ae), dz p.size s.size, fun b n hF => ?_, fun b o n => ?_, fun b o n => ?_, by simpa using G⟩
   ·rw [hold b (dS n p.size) (fun L => by subst L; rcases Q.2.2 with h | h; omega; exact hF h)]
    exact p.lO b n hF
   ·rw [hold b (p.Co n) (fun L => by subst L; rw [Q.2.1] at n; cases n)]
    exact p.mem b o n
   ·simp only [aN, bM] at n
    rcases n with n | n | n
    ·obtain ⟨r1, r2⟩ := p.box b o (by simp [n])
     exact ⟨by rw [hold b (na r1) (I b o (by simp [n]))]; exact r1, r2⟩
    ·cases n; exact ⟨ag, Q.2⟩
    ·obtain ⟨r1, r2⟩ := p.box b o (by simp [n])
     exact ⟨by rw [hold b (na r1) (I b o (by simp [n]))]; exact r1, r2⟩
  ·have Z : W.heap.size ≤ U := by
    rcases M with h | h <;> simp [Value.ownBlock] at h
    ·exact absurd h an
    ·omega
   have O : ST dd F w W μ (X ++ (g, Obj.cells J e (0, 0)) :: Y) := by simpa using p
   have Q := O.box g (Obj.cells J e (0, 0)) (by simp)
   have G := O.nd
   simp only [cE, bD] at G
   have I : ∀ b o, (b, o) ∈ X ++ Y → b ≠ g := fun b o n L => by
    subst L
    rcases aN.1 n with n | n
    ·exact (bT.1 G).2.2 b (bF.2 ⟨_, n, rfl⟩) b (by simp) rfl
    ·exact (cR.1 (bT.1 G).2.1).1 (bF.2 ⟨_, n, rfl⟩)
   have hold : ∀ b, b < W.heap.size → b ≠ g → W'.heap[b]? = W.heap[b]? := fun b n I => s.block b n (by simp [Value.ownBlock]; exact I)
   refine ⟨s.os.trans p.os, s.tape.trans p.tape, s.output.trans p.output, sO.trans p.drawn (sO.of ae), dz p.size s.size, fun b n hF => ?_, fun b o n => ?_, fun b o n => ?_, ?_⟩
   ·rw [hold b (dS n p.size) (fun L => by subst L; rcases Q.2.2 with h | h; omega; exact hF h)]
    exact p.lO b n hF
   ·rw [hold b (p.Co n) (fun L => by subst L; rw [Q.2.1] at n; cases n)]
    exact p.mem b o n
   ·simp only [aN, bM] at n
    rcases n with n | n | n
    ·obtain ⟨r1, r2⟩ := p.box b o (by simp [n])
     exact ⟨by rw [hold b (na r1) (I b o (by simp [n]))]; exact r1, r2⟩
    ·cases n
     refine ⟨ag, ?_, .inl (dz p.size Z)⟩
     cases hm : μ U with
     | none => rfl
     | some x => have := p.Co hm; omega
    ·obtain ⟨r1, r2⟩ := p.box b o (by simp [n])
     exact ⟨by rw [hold b (na r1) (I b o (by simp [n]))]; exact r1, r2⟩
   ·have az : (X.map (·.1) ++ Y.map (·.1)).Nodup := (cR.1 ((fT eE).1 G)).2
    simp only [cE, bD, fD]
    refine (fT eE).2 (cR.2 ⟨fun hm => ?_, az⟩)
    rw [← cE] at hm
    obtain ⟨⟨b, o⟩, n, L⟩ := bF.1 hm
    have := p.DI (b := b) (o := o) (by rcases aN.1 n with h | h <;> simp [h])
    simp at L
    omega
end
end Go.Proofs.YtjjjihkifgdhgaaGreat
namespace Go.Proofs.YtjjjihkifgdhgaaGreat
open Go.RowKit
variable [M : Md]
def xH (l : List Value) : Nat → Value := fun t => l.getD t undef
def tz (P : Program) (fn : Func) (R : Ending → World → Prop) : nr
 | .normal, E, W | .ret, E, W => ∃ v, (∀ tmps : Array Value, (∀ t, tmps.getD t undef = E t) → (results fn tmps).run P W = .ok v W) ∧ R (.returned v) W
 | _, _, _ => False
theorem wM {P : Program} {f : FuncId} {fn : Func} {c : Code} {args : List Value} {w : World} {R : Ending → World → Prop} {n : Nat} (p : P.funcs[f]? = some fn) (m : fn.body = some c) (q : fn.ntmps = n) (ha : args.length ≤ n) (h : @CW xI P n c (tz P fn R) (xH args) w) : Calls P f args.toArray w R := by
 refine calls_of_wp p m ?_
 have i : @Ag xI n { tmps := args.toArray ++ Array.replicate (fn.ntmps - args.toArray.size) undef, defers := [] } (xH args) := by
  refine ⟨by simp; omega, rfl, fun t => ?_⟩
  simp only [xH, dV, List.getD_eq_getElem?_getD, gC, Array.getElem?_replicate, dx, fE]
  by_cases k : t < args.length
  ·rw [aZ k]
  ·rw [aY k, eP (by omega)]
   split <;> simp
 refine wp_mono ((wpIn_wide (n := 0)).1 (h _ i)) (fun e a r d => ?_)
 cases e with
 | normal =>
  obtain ⟨E, b, v, j, g⟩ := d
  exact ⟨b.2.1, v, j _ b.2.2, g⟩
 | ret =>
  obtain ⟨E, b, v, j, g⟩ := d
  exact ⟨b.2.1, v, j _ b.2.2, g⟩
 | exit id => obtain ⟨E, b, h⟩ := d; exact h.elim
 | goto l => obtain ⟨E, b, h⟩ := d; exact h.elim
 | panic c => exact d.2.elim
 | outgrown => exact d.elim
section
variable {P : Program} {fn : Func} {R : Ending → World → Prop} {E : Nat → Value} {W : World}
theorem li {r : Tmp} {v : Value} (a : fn.results = #[.tmp r]) (d : E r = v) (h : R (.returned v) W) : tz P fn R .ret E W :=
 ⟨v, fun tmps b => by rw [results_tmp a, b, d], h⟩
theorem Aq {r s : Tmp} {v u : Value} (b : fn.results = #[.tmp r, .tmp s]) (d : E r = v) (hu : E s = u) (h : R (.returned (.tuple #[v, u])) W) : tz P fn R .ret E W :=
 ⟨.tuple #[v, u], fun tmps a => by rw [results_tmp2 b, a, a, d, hu], h⟩
theorem ox (a : fn.results = #[]) (h : R (.returned (.tuple #[])) W) : tz P fn R .ret E W :=
 ⟨.tuple #[], fun tmps _ => by rw [results_none a], h⟩
theorem pX {r : Tmp} {t : TypeId} {a : Addr} {v : Value} (b : fn.results = #[.cell r t]) (i : E r = .pointer (some a)) (g : (Instr.loadAt t (.pointer (some a))).run P W = .ok v W) (h : R (.returned v) W) : tz P fn R .ret E W :=
 ⟨v, fun tmps d => by
  have h1 : (loadVar t a).run P W = .ok v W := by simpa [Instr.loadAt, Instr.sureAddr] using g
  simp [results, b, d, i, asAddr, h1], h⟩
theorem qe (h : tz P fn R .ret E W) : tz P fn R .normal E W := h
end
section
variable {Q : nr} {E : Nat → Value} {W : World} {K : (Nat → Value) → World → Prop} {id j : Nat}
theorem kz (h : Q .normal E W) : ur id Q .normal E W := h
theorem nt (h : Q .ret E W) : ur id Q .ret E W := h
theorem rC (h : Q .normal E W) : ur id Q (.exit id) E W := by simp [ur]; exact h
theorem Rx (a : (j = id) = False) (h : Q (.exit j) E W) : ur id Q (.exit j) E W := by simp only [ur, a, aH]; exact h
theorem jH (h : K E W) : oZ K Q .normal E W := h
theorem kI (h : Q .ret E W) : oZ K Q .ret E W := h
theorem mI (h : Q (.exit j) E W) : oZ K Q (.exit j) E W := h
end
theorem M2 {i N : Nat} (b : i < N) (a : N ≤ 9223372036854775807) : IntKind.i64.wrap ((i : Int) + 1) = ((i + 1 : Nat) : Int) := by
 rw [IntWalk.i64_in _ (by omega)]
 omega
theorem lQ {P : Program} {n : Nat} {Q : nr} {E : Nat → Value} {W : World} {g s r2 r6 p q G u : Nat} {t1 t2 t3 t4 t5 t6 t7 : TypeId} {U Y Z : String} {f1 f2 f3 : Array Edge} {body : Code} (I : Nat → (Nat → Value) → World → Prop) (N : Nat) (O : N ≤ 9223372036854775807) (J : I 0 E W) (R : p < n) (T : u < n) (z : q < n) (M : ∀ i E W, I i E W → E q = .int .i64 (i : Nat) ∧ E G = .int .i64 (N : Nat)) (round : ∀ i E W, i < N → I i E W → CW P n (.block s body) (oZ (fun E' W' => E' q = .int .i64 (i : Nat) ∧ I (i + 1) (nm (nm E' u (.int .i64 ((i + 1 : Nat) : Int))) q (.int .i64 ((i + 1 : Nat) : Int))) W') (ur g Q)) (nm E p (.bool true)) W) (done : ∀ E W, I N E W → Q .normal (nm E p (.bool false)) W) :
  CW P n (.block g (.loop (.seq (.region r2 #[⟨some p, .binOp .lss t1 (.tmp q) (.tmp G) t2, t3, U, f1, none⟩] false)
   (.seq (.cond (.tmp p) .skip (.exit g)) (.seq (.block s body)
    (.region r6 #[⟨some u, .binOp .add t4 (.tmp q) (.const (.int .i64 1)) t5, t6, Y, f2, none⟩, ⟨some q, .move (.tmp u), t7, Z, f3, none⟩] false)))))) Q E W := by
 refine kX (mT (fun m E W => ∃ i, i ≤ N ∧ m = N - i ∧ I i E W) N ⟨0, ep _, by omega, J⟩ ?_)
 rintro m E W ⟨i, hi, rfl, d⟩
 obtain ⟨w, x⟩ := M i E W d
 refine jI (jC (Hc (.inl rfl) rfl R (ko w x rfl) (jU ?_)))
 refine jH (jI ?_)
 have t : nm E p (.bool (decide ((i : Int) < (N : Int)))) p = .bool (decide ((i : Int) < (N : Int))) := by simp [nm]
 by_cases r : i < N
 ·have y : decide ((i : Int) < (N : Int)) = true := by simp; omega
  rw [y] at t ⊢
  refine we t (lJ (jH (jI ?_)))
  refine BL (round i E W r d) (fun e E' W' h => ?_)
  cases e with
  | normal =>
   obtain ⟨h1, L⟩ := h
   refine jH ?_
   have hw : IntKind.i64.wrap ((i : Int) + 1) = ((i + 1 : Nat) : Int) := M2 r O
   refine jC (Hc (v := .int .i64 ((i + 1 : Nat) : Int)) (.inl rfl) rfl T (ko (k := .i64) (a := (i : Int)) (b := 1) h1 rfl (by simp only [Im, hw])) ?_)
   refine Hc (v := .int .i64 ((i + 1 : Nat) : Int)) (.inl rfl) rfl z (jx (by simp [jz, nm])) (jU ?_)
   exact jH ⟨N - (i + 1), by omega, i + 1, by omega, rfl, L⟩
  | exit j => exact h
  | goto l => exact h
  | ret => exact h
  | panic c => exact h
  | outgrown => exact h
 ·have y : decide ((i : Int) < (N : Int)) = false := by simp; omega
  rw [y] at t ⊢
  obtain rfl : i = N := by omega
  refine su t (ng (mI (mI (rC ?_))))
  exact done E W d
theorem Nd {P : Program} {n : Nat} {x : Code} {Q : nr} {K : (Nat → Value) → World → Prop} {E : Nat → Value} {W : World} (J : (Nat → Value) → World → Prop) (h : CW P n x (oZ J Q) E W) (k : ∀ E W, J E W → K E W) : CW P n x (oZ K Q) E W :=
 BL h (fun e E W h => by cases e <;> first | exact k E W h | exact h)
theorem QS {α : Type} {c : Bool} {x y r : α} (a : c = true) (h : (if c = true then x else y) = r) : x = r := by rw [aZ a] at h; exact h
theorem QU {α : Type} {c : Bool} {x y r : α} (a : c = false) (h : (if c = true then x else y) = r) : y = r := by rw [aY (by rw [a]; decide)] at h; exact h
theorem bind_some {α β : Type} {o : Option α} {f : α → Option β} {r : β} (h : o.bind f = some r) : ∃ y, o = some y ∧ f y = some r := by
 cases o with
 | none => cases h
 | some y => exact ⟨y, rfl, h⟩
theorem L5 (b : Bool) : b = true ∨ b = false := by cases b <;> simp
theorem lz {α : Type} {l : List α} {i : Nat} (h : i < l.length) : ∃ x xs, l.drop i = x :: xs ∧ l[i]? = some x ∧ l.drop (i + 1) = xs := by
 cases a : l.drop i with
 | nil => have := bN List.length a; simp at this; omega
 | cons x xs => exact ⟨x, xs, rfl, by rw [← List.head?_drop, a]; rfl, by rw [← List.drop_drop, a]; rfl⟩
theorem DT {P : Program} {W : World} (d : Nat) (xs ys : Array Value) : (Op.eqFields d xs ys []).run P W = .ok true W := by simp [Op.eqFields]
theorem qG {P : Program} {W : World} {d : Nat} {xs ys : Array Value} {f : Field} {fs : List Field} {a b : Value} {r s : Bool} (i : f.name ≠ "_") (ha : (part f.type xs f.offset).run P W = .ok a W) (g : (part f.type ys f.offset).run P W = .ok b W) (he : (Op.equalIn d f.type a b).run P W = .ok r W) (h : (Op.eqFields d xs ys fs).run P W = .ok s W) : (Op.eqFields d xs ys (f :: fs)).run P W = .ok (r && s) W := by
 simp only [Op.eqFields, ne_eq, i, not_false_eq_true, aM, bY, ha, g, he, bK]
 cases r <;> simp [h]
theorem yD {P : Program} {W : World} {t : TypeId} {k : Nat} {cs : Array Value} {off : Nat} {v : Array Value} (a : ∀ w, (isAgg t).run P w = .ok true w) (b : ∀ w, (sizeOf t).run P w = .ok k w) (d : cs.extract off (off + k) = v) : (part t cs off).run P W = .ok (.agg v) W := by
 simp [part, a W, b W, d]
theorem po {P : Program} {W : World} {t : TypeId} {cs : Array Value} {off : Nat} {v : Value} (a : ∀ w, (isAgg t).run P w = .ok false w) (b : cs[off]? = some v) : (part t cs off).run P W = .ok v W := by
 simp [part, a W, b]
def kD (a b : ByteArray) : Bool := a.toList == b.toList
theorem OW {P : Program} {t : TypeId} (g : P.underlying t = some .string) (d : Nat) (a b : ByteArray) (W : World) : (Op.equalIn (d + 1) t (.string a) (.string b)).run P W = .ok (kD a b) W := run_equalIn_string W d t a b g
theorem QY {P : Program} {t : TypeId} {k : IntKind} (g : P.underlying t = some (.int k)) (d : Nat) (a b : Int) (W : World) : (Op.equalIn (d + 1) t (.int k a) (.int k b)).run P W = .ok (a == b) W := run_equalIn_int W d t k k a b g
theorem pu {P : Program} {op : BinOp} {t : TypeId} {x y : Operand} {a b : Array Value} (d : P.eqGuardType P.depth t = false) (W : World) : (eqGuard op t x y (.agg a) (.agg b)).run P W = .ok () W := by
 cases op <;> simp [eqGuard] <;> (intro h; rw [d] at h; cases h)
theorem tH {P : Program} {t : TypeId} {a b : Array Value} {r : Bool} (h : ∀ W, (Op.equalIn Op.maxDepth t (.agg a) (.agg b)).run P W = .ok r W) (W : World) : (binOp .eql t (.agg a) (.agg b)).run P W = .ok (.bool r) W := by
 simp [binOp, Op.equal, h W]
theorem Kf {P : Program} {t : TypeId} {a b : Array Value} {r : Bool} (h : ∀ W, (Op.equalIn Op.maxDepth t (.agg a) (.agg b)).run P W = .ok r W) (W : World) : (binOp .neq t (.agg a) (.agg b)).run P W = .ok (.bool !r) W := by
 simp [binOp, Op.equal, h W]
end Go.Proofs.YtjjjihkifgdhgaaGreat
namespace Go.Proofs.YtjjjihkifgdhgaaGreat
open Go.RowKit
variable [M : Md]
variable {dd : Bool}
def kP (k : IntKind) (x : Int) : List Value := [.int k x]
def QX (x : Bool) : List Value := [.bool x]
def Cw (x : ByteArray) : List Value := [.string x]
theorem wc (k : IntKind) (x : Int) : ∀ u ∈ kP k x, u.oneCell' = true := by intro u hu; simp [kP] at hu; subst hu; rfl
theorem IU (x : Bool) : ∀ u ∈ QX x, u.oneCell' = true := by intro u hu; simp [QX] at hu; subst hu; rfl
theorem Q4 (x : ByteArray) : ∀ u ∈ Cw x, u.oneCell' = true := by intro u hu; simp [Cw] at hu; subst hu; rfl
def zS : ByteArray := ⟨#[]⟩
def pN (a b : ByteArray) : Bool := Op.bytesLess a.toList b.toList
@[irreducible] def jP : Nat := 18446744073709551616
theorem wu : jP = 18446744073709551616 := by unfold jP; rfl
def kV {α : Type} (l : List α) (i : Int) : Option α := if 0 ≤ i then l[i.toNat]? else none
theorem kh {α : Type} {l : List α} {i : Int} {x : α} (h : kV l i = some x) : 0 ≤ i := by
 unfold kV at h; split at h
 ·assumption
 ·cases h
theorem jY {α : Type} {l : List α} {i : Int} {x : α} (h : kV l i = some x) : l[i.toNat]? = some x := by
 unfold kV at h; split at h
 ·exact h
 ·cases h
theorem Eu {α : Type} (l : List α) (i : Nat) : kV l (i : Int) = l[i]? := by simp [kV]
def zI (s : ByteArray) (i : Int) : Option UInt8 := if 0 ≤ i then s[i.toNat]? else none
theorem yT {s : ByteArray} {i : Int} {x : UInt8} (h : zI s i = some x) : 0 ≤ i := by
 unfold zI at h; split at h
 ·assumption
 ·cases h
theorem CF {s : ByteArray} {i : Int} {x : UInt8} (h : zI s i = some x) : s[i.toNat]? = some x := by
 unfold zI at h; split at h
 ·exact h
 ·cases h
section
variable {F : Nat → Prop} {w W : World} {μ : jN} {L L' : List (Nat × Obj)} {α : Type} {e : TypeId} {enc : α → List Value} {k : Nat} {v : Value} {l : List α} {R : List (Nat × Obj)}
theorem ST.at_ (h : ST dd F w W μ L) {b : Nat} {o : Obj} (a : (b, o) ∈ L) : hp W b = some o := (h.box b o a).1
theorem jM.SI (h : jM e enc k v l R) (hk : ∀ x, (enc x).length = k) (a : ST dd F w W μ L) (b : ∀ p, p ∈ R → p ∈ L) : Sl (Pl enc) k (hp W) v l :=
 h.sl hk (fun _ _ d => a.at_ (b _ d))
theorem jM.form (h : jM e enc k v l R) : ∃ A c, v = .slice A l.length c := by
 rcases h with ⟨rfl, rfl, rfl⟩ | ⟨g, cap, a, rfl, rfl, h1, b, d, i⟩
 ·exact ⟨_, _, rfl⟩
 ·exact ⟨_, _, rfl⟩
theorem Sl.form {R : pA α} (h : Sl R k μ v l) : ∃ A c, v = .slice A l.length c := let ⟨A, c, h, _⟩ := h; ⟨A, c, h⟩
theorem jM.OS (h : jM e enc k v l R) (d : ST dd kK w W μ L) (j : ∀ p, p ∈ R → p ∈ L) : Fr w.heap.size v := by
 rcases h with ⟨rfl, rfl, rfl⟩ | ⟨g, cap, a, rfl, rfl, h1, m, n, q⟩
 ·exact Fr.nil _
 ·intro b i
  simp [Value.ownBlock] at i
  subst i
  rcases (d.box g (.cells a e (0, 0)) (j _ (bM.2 rfl))).2.2 with h | h
  ·exact h
  ·exact h.elim
theorem Sl.lit {b m : Nat} {cs : Array Value} (hk : ∀ x, (enc x).length = k) (hm : l.length = m) (d : m ≤ maxLen) (a : cs.toList = (l.map enc).flatten) (g : μ b = some (.cells cs e (0, 0))) : Sl (Pl enc) k μ (.slice (some ⟨b, 0, none⟩) m m) l :=
 (jM.lit (e := e) (b := b) hm d a (by have := bN List.length a; rw [pJ hk, cZ, hm] at this; exact this)).sl hk (fun i o h => by simp at h; obtain ⟨rfl, rfl⟩ := h; exact g)
theorem Fr.box (h : ST dd kK w W μ L) {b m c : Nat} {o : Obj} (d : (b, o) ∈ L) : Fr w.heap.size (.slice (some ⟨b, 0, none⟩) m c) := by
 intro g a
 simp [Value.ownBlock] at a
 subst a
 rcases (h.box b o d).2.2 with h | h
 ·exact h
 ·exact h.elim
theorem ST.perm (h : ST dd F w W μ L) (hp : L.Perm L') : ST dd F w W μ L' :=
 ⟨h.os, h.tape, h.output, h.drawn, h.size, h.lO, h.mem, fun b o a => h.box b o (hp.mem_iff.2 a), (hp.map _).nodup_iff.1 h.nd⟩
theorem ST.sublist (h : ST dd F w W μ L) (a : L'.Sublist L) : ST dd F w W μ L' :=
 ⟨h.os, h.tape, h.output, h.drawn, h.size, h.lO, h.mem, fun b o d => h.box b o (a.subset d), h.nd.sublist (a.map _)⟩
end
section
variable {E : Nat → Value} {x1 x2 x3 x4 x5 x6 : Operand} {v1 v2 v3 v4 v5 v6 : Value}
theorem tm (h1 : jz E x1 = v1) : #[x1].map (jz E) ++ (#[] : Array Value) = [v1].toArray := by simp [h1]
theorem uk (h1 : jz E x1 = v1) (a : jz E x2 = v2) : #[x1, x2].map (jz E) ++ (#[] : Array Value) = [v1, v2].toArray := by simp [h1, a]
end
theorem HF : ∀ (v : List Value) (i off : Nat) (cells : Array Value), off + i + v.length ≤ cells.size →
  (v.zipIdx i).foldl (fun cs (c, j) => cs.setIfInBounds (off + j) c) cells = (cells.toList.take (off + i) ++ v ++ cells.toList.drop (off + i + v.length)).toArray
 | [], i, off, cells, h => by simp
 | c :: v, i, off, cells, h => by
  simp only [iP, ga]
  simp only [aI] at h
  rw [HF v (i + 1) off _ (by simp; omega)]
  have d : off + i < cells.toList.length := by simp; omega
  congr 1
  rw [Array.toList_setIfInBounds]
  apply et
  intro j
  have g : (cells.toList.take (off + i)).length = off + i := by simp; omega
  by_cases h1 : j < off + i
  ·simp only [fJ, aD, dv, gP, cZ, aI, fh, eT, dJ]
   rw [show min (off + (i + 1)) cells.size = off + (i + 1) by omega, show min (off + i) cells.size = off + i by omega]
   rw [aZ (by omega), aZ (by omega), aZ (by omega), aY (by omega), aZ (by omega), aZ (by omega), aZ (by omega)]
  ·by_cases b : j = off + i
   ·subst b
    simp [fJ, fh, eT, show off + i < off + (i + 1) by omega]
    rw [aZ (by omega), aZ (by omega), aY (by omega), show off + i - min (off + i) cells.size = 0 by omega]
    rfl
   ·simp only [fJ, aD, dv, gP, cZ, aI, fh, eT, dJ]
    rw [show min (off + (i + 1)) cells.size = off + (i + 1) by omega, show min (off + i) cells.size = off + i by omega]
    by_cases a : j < off + (i + 1) + v.length
    ·rw [aZ a, aY (by omega), aZ (by omega), aY (by omega)]
     rw [show j - (off + i) = (j - (off + (i + 1))) + 1 by omega]
     simp
    ·rw [aY a, aY (by omega), aY (by omega)]
     congr 1
     omega
theorem Jp {k : Nat} : ∀ (vs : List Value) (i : Nat) (pre rest : List Value), (∀ v ∈ vs, v.cells.size = k) → pre.length = i * k → rest.length = vs.length * k →
  Instr.fill (fun i => some (i * k, k)) (pre ++ rest).toArray ((vs.zipIdx i).map (fun p => (p.2, p.1))) = some (pre ++ vs.flatMap (fun v => v.cells.toList)).toArray
 | [], i, pre, rest, d, hp, b => by
  have : rest = [] := by cases rest <;> simp at b ⊢
  simp [Instr.fill, this]
 | v :: vs, i, pre, rest, d, hp, b => by
  have a := d v (by simp)
  have g : v.cells.zipIdx.foldl (fun cs (c, j) => cs.setIfInBounds (i * k + j) c) (pre ++ rest).toArray = (pre ++ v.cells.toList ++ rest.drop k).toArray := by
   have := HF v.cells.toList 0 (i * k) (pre ++ rest).toArray (by simp [hp, b, a, cL])
   rw [← Array.toList_zipIdx, Array.foldl_toList] at this
   rw [this]
   congr 1
   simp [← hp, a]
  simp only [iP, bD, Instr.fill]
  rw [aY (by simp [a, hp, b, cL]), g]
  have := Jp vs (i + 1) (pre ++ v.cells.toList) (rest.drop k) (fun u hu => d u (by simp [hu])) (by simp [hp, a, cL]) (by simp [b, cL])
  rw [this]
  simp
theorem NP {k m : Nat} {a cs : Array Value} {qs : Array (Nat × Value)} (vs : List Value) (d : qs.toList = vs.zipIdx.map (fun p => (p.2, p.1))) (h : ∀ v ∈ vs, v.cells.size = k) (hm : vs.length = m) (g : a.size = m * k) (b : (vs.flatMap (fun v => v.cells.toList)).toArray = cs) : Instr.fill (fun i => some (i * k, k)) a qs.toList = some cs := by
 subst hm b
 rw [d]
 have := Jp vs 0 [] a.toList h (by simp) (by simpa using g)
 simpa using this
theorem Ak {P : Program} {t e : TypeId} {m k : Nat} {z : Value} {qs : Array (Nat × Value)} {cs : Array Value} (vs : List Value) (h : P.underlying t = some (.slice e)) (g : ∀ w, (sizeOf e).run P w = .ok k w) (j : ∀ w, (zeroValue e).run P w = .ok z w) (hm : m * k ≤ 16777216) (d : qs.toList = vs.zipIdx.map (fun p => (p.2, p.1))) (i : ∀ v ∈ vs, v.cells.size = k) (b : vs.length = m) (a : (vs.flatMap (fun v => v.cells.toList)).toArray = cs) (W : World) :
  (Instr.buildSlice t m qs).run P W = .ok (.slice (some ⟨W.heap.size, 0, none⟩) m m) (W.alloc (.cells cs e (0, 0))) :=
 GX h g j hm (NP vs d i b (by simp) a) W
theorem tW {E : Nat → Value}  : (#[] : Array (Nat × Operand)).map (fun (i, x) => (i, jz E x)) = #[] := by simp
theorem mD {E : Nat → Value} {x0 : Operand} {v0 : Value} {i0 : Nat} (a : jz E x0 = v0) : (#[(i0, x0)] : Array (Nat × Operand)).map (fun (i, x) => (i, jz E x)) = #[(i0, v0)] := by simp [a]
theorem sa {E : Nat → Value} {x0 x1 : Operand} {v0 v1 : Value} {i0 i1 : Nat} (a : jz E x0 = v0) (h1 : jz E x1 = v1) : (#[(i0, x0), (i1, x1)] : Array (Nat × Operand)).map (fun (i, x) => (i, jz E x)) = #[(i0, v0), (i1, v1)] := by simp [a, h1]
theorem GO {E : Nat → Value} {x0 x1 x2 : Operand} {v0 v1 v2 : Value} {i0 i1 i2 : Nat} (a : jz E x0 = v0) (h1 : jz E x1 = v1) (b : jz E x2 = v2) : (#[(i0, x0), (i1, x1), (i2, x2)] : Array (Nat × Operand)).map (fun (i, x) => (i, jz E x)) = #[(i0, v0), (i1, v1), (i2, v2)] := by simp [a, h1, b]
theorem kE {P : Program} {t : TypeId} {f off : Nat} {fs : Array Field} {fd : Field} (h : P.underlying t = some (.struct fs)) (a : fs[f]? = some fd) {k : Nat} (g : ∀ w, (sizeOf fd.type).run P w = .ok k w) (hk : k ≠ 0) (d : fd.offset = off) : lC P t f off := by
 intro b o w
 subst d
 simp [Instr.fieldAt, aV h, a, Instr.sureAddr, fieldPlace, dA, g w, hk]
theorem Ag.FN {n : Nat} {a : Act} {E : Nat → Value} (h : Ag n a E) {ops : Array Oper} {j t : Nat} (d : (ops[j]?).bind (·.dst) = some t) (i : t < n) (k : E t = undef) : yielded ops a.tmps j = none := by
 have b := h.2.2 t
 have g : a.tmps[t]? = some (E t) := by
  rw [← b]
  simp [dV, h.1, i]
 simp [yielded, d, g, k, undef]
theorem QV {P : Program} {n : Nat} {Q : nr} {E : Nat → Value} {W : World} {ops : Array Oper} {rest : List Oper} {o : Oper} {d j t : Nat} {want : Bool} (g : o.dst = some d) (l : d < n) (i : o.guard = some (j, want)) (k : (ops[j]?).bind (·.dst) = some t) (m : t < n) (b : E t = undef) (h : LW P n ops Q rest (nm E d undef) W) : LW P n ops Q (o :: rest) E W := fun a ha => by
 unfold wpListIn
 have p := ha.FN k m b
 rw [aY (by simp [Region.wanted, i, p])]
 rw [g]
 exact ⟨fun _ _ => trivial, h _ (ha.put l _)⟩
theorem RJ {P : Program} {n : Nat} {Q : nr} {E : Nat → Value} {W : World} {ops : Array Oper} {rest : List Oper} {A : Value → Prop} {o : Oper} {dd : Nat} (hw : rE n ops E o) (b : o.dst = some dd) (d : dd < n) (g : ∃ p, A p ∧ ∀ W, lD P E o W p W) (h : ∀ p, A p → LW P n ops Q rest (nm E dd p) W) : LW P n ops Q (o :: rest) E W := by
 obtain ⟨p, h1, a⟩ := g
 exact Hc hw b d (a W) (h p h1)
end Go.Proofs.YtjjjihkifgdhgaaGreat
namespace Go.Proofs.YtjjjihkifgdhgaaGreat
open Go.RowKit
variable [M : Md]
variable {dd : Bool}
theorem tE {P : Program} {n : Nat} {x : Code} {Q : nr} {E : Nat → Value} {W : World} (h : CW P n x (oZ (fun E W => Q .normal E W) Q) E W) : CW P n x Q E W :=
 BL h (fun e E W h => by cases e <;> exact h)
section
variable {P : Program} {n : Nat} {Q : nr} {E : Nat → Value} {W : World} {d : Option Nat} {ty : TypeId} {pos : String} {af : Array Edge} {g : Option (Nat × Bool)}
 {F : Nat → Prop} {w : World} {μ : jN} {L : List (Nat × Obj)}
def O3 (k : IntKind) (op : BinOp) (a b : Int) : Option Value :=
 match op with
 | .quo => some (.int k (k.wrap (a.tdiv b)))
 | .rem => some (.int k (a.tmod b))
 | .and => some (.int k (k.wrap (BitVec.ofInt k.bits a &&& BitVec.ofInt k.bits b).toNat))
 | .or => some (.int k (k.wrap (BitVec.ofInt k.bits a ||| BitVec.ofInt k.bits b).toNat))
 | _ => none
theorem Is {op : BinOp} {h n : TypeId} {x y : Operand} {k : IntKind} {a b : Int} {v : Value} (l : jz E x = .int k a) (m : jz E y = .int k b) (j : b ≠ 0) (i : O3 k op a b = some v) :
  lD P E ⟨d, .binOp op h x y n, ty, pos, af, g⟩ W v W := by
 show (do let r ← (do eqGuard op h x y (jz E x) (jz E y); binOp op h (jz E x) (jz E y)); pure (.value r) : Sem Next).run P W = _
 rw [l, m]
 cases op <;> simp [O3] at i <;> subst i <;> simp [eqGuard, binOp, Op.intDiv, Op.intBits, j]
theorem GF {h l : TypeId} {x y : Operand} {k k' : IntKind} {a b : Int} (i : jz E x = .int k a) (j : jz E y = .int k' b) (m : 0 ≤ b) :
  lD P E ⟨d, .binOp .shr h x y l, ty, pos, af, g⟩ W (.int k (a.fdiv (2 ^ min b.toNat k.bits))) W := by
 show (do let r ← (do eqGuard .shr h x y (jz E x) (jz E y); binOp .shr h (jz E x) (jz E y)); pure (.value r) : Sem Next).run P W = _
 rw [i, j]
 simp [eqGuard, binOp, Op.shift, show ¬ b < 0 by omega]
theorem qI {s t : TypeId} {x : Operand} {k k' : IntKind} {a : Int} {u : TypeDesc} (b : P.underlying s = some u) (h : P.underlying t = some (.int k)) (i : jz E x = .int k' a) :
  lD P E ⟨d, .convert s t x, ty, pos, af, g⟩ W (.int k (k.wrap a)) W := by
 show (do pure (.value (← convert s t (jz E x))) : Sem Next).run P W = _
 rw [i]
 simp [convert, aV b, aV h, Conv.intToInt]
theorem G6 {t e : TypeId} (dd : Nat) (a : P.underlying t = some (.slice e)) (A : Option Addr) (l c : Nat) (W : World) : (Op.equalIn (dd + 1) t (.slice A l c) (.slice none 0 0)).run P W = .ok A.isNone W := by
 cases A <;> simp [Op.equalIn, aV a]
theorem AS {a k e : TypeId} {x y : Operand} {A : Option Addr} {l c : Nat} (h : P.underlying a = some (.slice e)) (i : jz E x = .slice A l c) (j : jz E y = .slice none 0 0) :
  lD P E ⟨d, .binOp .eql a x y k, ty, pos, af, g⟩ W (.bool A.isNone) W := by
 show (do let r ← (do eqGuard .eql a x y (jz E x) (jz E y); binOp .eql a (jz E x) (jz E y)); pure (.value r) : Sem Next).run P W = _
 rw [i, j]
 have b := G6 9999 h A l c W
 simp [eqGuard, binOp, Op.equal, show Op.maxDepth = 9999 + 1 from rfl, b]
def rZ (s : ByteArray) : List Int := s.data.toList.map (fun b => (b.toNat : Int))
def Cd (s : ByteArray) : Option (List Int) := if s.size ≤ maxLen then some (rZ s) else none
theorem oY (s : ByteArray) : (rZ s).length = s.size := by simp only [rZ, cW, cZ]; rfl
theorem LR {s : ByteArray} {cap i : Nat} {x : Int} (h : (rZ s)[i]? = some x) : (bytesRow s cap)[i]? = some (.int .u8 x) := by
 have g : i < s.size := by have := (bJ.1 h).1; rwa [oY] at this
 have a : i < s.data.size := g
 simp [rZ] at h
 obtain ⟨b, d, rfl⟩ := h
 rw [bytesRow, Array.getElem?_append_left (by simpa using a)]
 simp [d]
theorem HV {K : Value → World → Prop} {s t e : TypeId} {x : Operand} {str : ByteArray} {l : List Int} (k : ST dd F w W μ L) (r : P.underlying s = some .string) (q : P.underlying t = some (.slice e)) (he : P.underlying e = some (.int .u8)) (n : jz E x = .string str) (a : Cd str = some l) (h : ∀ W' v μ', ST dd F w W' μ' L → jR μ μ' → Lo F w μ μ' → Sl (Pl (kP .u8)) 1 μ' v l → Fr w.heap.size v → K v W') : mL P E ⟨d, .convert s t x, ty, pos, af, g⟩ W K := by
 unfold Cd at a
 split at a
 case isFalse => cases a
 rename_i hm
 cases a
 have m := run_bytes_of_string (P := P) W s t e str r q he
 have h1 := k.drew.alloc (.cells (bytesRow str (grownCap W str.size 0 e)) e ((bytesRow str (grownCap W str.size 0 e)).size, (bytesRow str (grownCap W str.size 0 e)).size + 1))
 refine .inl ⟨.slice (some ⟨W.heap.size, 0, none⟩) str.size (grownCap W str.size 0 e), _, ?_, h _ _ _ (ST.Hh (A := []) h1) (ST.G2 (A := []) h1) (ST.Nj (A := []) h1) ?_ ?_⟩
 ·show (do pure (.value (← convert s t (jz E x))) : Sem Next).run P W = _
  rw [n]
  simp only [bY, m, bK, cX]
 ·refine ⟨_, grownCap W str.size 0 e, by rw [oY], by rw [oY]; exact grownCap_ge W str.size 0 e, ij W str.size 0 e hm, fun _ => ⟨W.heap.size, 0, bytesRow str (grownCap W str.size 0 e), e, _, rfl, aZ rfl, fun i x n => ⟨_, rfl, rfl, fun j y p => ?_⟩⟩⟩
  cases j with
  | zero => simp [kP] at p; subst p; simpa using LR n
  | succ j => simp [kP] at p
 ·intro b a
  simp [Value.ownBlock] at a
  subst a
  exact k.size
def DA (l : List Int) : ByteArray := l.foldl (fun r n => r.push (UInt8.ofNat n.toNat)) ByteArray.empty
theorem Kz {s t e : TypeId} {x : Operand} {v : Value} {l : List Int} (z : P.underlying s = some (.slice e)) (he : P.underlying e = some (.int .u8)) (y : P.underlying t = some .string) (I : jz E x = v) (G : Sl (Pl (kP .u8)) 1 (hp W) v l) :
  lD P E ⟨d, .convert s t x, ty, pos, af, g⟩ W (.string (DA l)) W := by
 show (do pure (.value (← convert s t (jz E x))) : Sem Next).run P W = _
 obtain ⟨A, c, rfl, J, L, q⟩ := G
 rw [I]
 simp only [bY, run_convert_bytes_string W s t e A l.length c z he y]
 rcases ee l.length with h | h
 ·have : l = [] := dT.1 h
  subst this
  cases A with
  | none => simp [Conv.bytesToString, DA]
  | some a =>
   have r := run_bytesToString (P := P) W a 0 c [] (by simpa using ig (P := P) W a [] (by simp))
   simp only [bP]
   rw [r]
   simp [DA]
 ·obtain ⟨b, off, cs, T, fr, rfl, u, w⟩ := q h
  have p := ig (P := P) W ⟨b, off, none⟩ (l.map (Value.int .u8)) (fun j v n => by
   simp at n
   obtain ⟨x, k, rfl⟩ := n
   obtain ⟨ys, _, m, i⟩ := w j x k
   cases m
   rw [dA, gk W b (off + j) cs T fr u]
   have := i 0 (.int .u8 x) rfl
   simpa using this)
  simp only [cW] at p
  rw [run_bytesToString W _ l.length c l p]
  simp [DA]
end
end Go.Proofs.YtjjjihkifgdhgaaGreat
namespace Go.Proofs.YtjjjihkifgdhgaaGreat
open Go.RowKit
variable {dd : Bool}
def keys (L : List (Nat × Obj)) : Nat → Prop := fun b => ∃ o, (b, o) ∈ L
structure Tu (dd : Bool) (F : Nat → Prop) (w W : World) : Prop where
 os : W.os = w.os
 tape : W.tape = w.tape
 output : W.output = w.output
 drawn : sO dd w.drawn W.drawn
 size : w.heap.size ≤ W.heap.size
 lO : ∀ b, b < w.heap.size → ¬ F b → W.heap[b]? = w.heap[b]?
def zz (L : List (Nat × Obj)) (W : World) : Prop := ∀ b o, (b, o) ∈ L → W.heap[b]? = some o
structure qK (dd : Bool) (L0 L1 : List (Nat × Obj)) (w w' : World) : Prop where
 ex : Tu dd (keys L0) w w'
 held : ∀ b o, (b, o) ∈ L1 → w'.heap[b]? = some o ∧ (w.heap.size ≤ b ∨ keys L0 b)
 nd : (L1.map (·.1)).Nodup
open Classical in
noncomputable def pB (w : World) (L : List (Nat × Obj)) : jN := fun b => if keys L b then none else w.heap[b]?
open Classical in
noncomputable def Bd (μ : jN) (W W' : World) (L1 : List (Nat × Obj)) : jN := fun b => if b < W.heap.size then μ b else if keys L1 b then none else W'.heap[b]?
section
variable {F : Nat → Prop} {w W W' : World} {μ μ' : jN} {L L0 L1 : List (Nat × Obj)}
theorem ST.Rc (a : zz L0 w) (d : (L0.map (·.1)).Nodup) : ST dd (keys L0) w w (pB w L0) L0 :=
 ⟨rfl, rfl, rfl, sO.of (aU _), aU _, fun _ _ _ => rfl, fun b o h => by
  unfold pB at h; split at h
  ·cases h
  ·exact h, fun b o h => ⟨a b o h, by unfold pB; rw [aZ ⟨o, h⟩], .inr ⟨o, h⟩⟩, d⟩
theorem Ew {A B : List (Nat × Obj)} (h : ((A ++ B).map (·.1)).Nodup) {b : Nat} {o : Obj} (a : (b, o) ∈ B) : ¬ keys A b := by
 rintro ⟨o', d⟩
 rw [cE] at h
 exact (bT.1 h).2.2 b (bF.2 ⟨_, d, rfl⟩) b (bF.2 ⟨_, a, rfl⟩) rfl
theorem ST.back (h : ST dd F w W μ (L0 ++ L)) (j : qK dd L0 L1 W W') : ST dd F w W' (Bd μ W W' L1) (L1 ++ L) := by
 have hk : ∀ b, keys L0 b → b < W.heap.size ∧ μ b = none ∧ (w.heap.size ≤ b ∨ F b) := fun b ⟨o, d⟩ => by
  obtain ⟨h1, g, m⟩ := h.box b o (cD _ d)
  exact ⟨na h1, g, m⟩
 refine ⟨j.ex.os.trans h.os, j.ex.tape.trans h.tape, j.ex.output.trans h.output, sO.trans h.drawn j.ex.drawn, dz h.size j.ex.size, fun b i n => ?_, fun b o d => ?_, fun b o d => ?_, ?_⟩
 ·rw [j.ex.lO b (dS i h.size) (fun k => by
   rcases (hk b k).2.2 with h | h
   ·omega
   ·exact n h)]
  exact h.lO b i n
 ·unfold Bd at d
  split at d
  ·rename_i i
   rw [j.ex.lO b i (fun k => by rw [(hk b k).2.1] at d; cases d)]
   exact h.mem b o d
  ·split at d
   ·cases d
   ·exact d
 ·rcases aN.1 d with d | d
  ·obtain ⟨h1, g⟩ := j.held b o d
   refine ⟨h1, ?_, ?_⟩
   ·unfold Bd
    split
    ·rename_i i
     rcases g with g | g
     ·omega
     ·exact (hk b g).2.1
    ·rw [aZ ⟨o, d⟩]
   ·rcases g with g | g
    ·exact .inl (dz h.size g)
    ·exact (hk b g).2.2
  ·obtain ⟨h1, g, m⟩ := h.box b o (dt _ d)
   refine ⟨?_, ?_, m⟩
   ·rw [j.ex.lO b (na h1) (Ew h.nd d)]; exact h1
   ·unfold Bd; rw [aZ (na h1)]; exact g
 ·rw [cE]
  have q : (L.map (·.1)).Nodup := by have := h.nd; rw [cE] at this; exact (bT.1 this).2.1
  refine bT.2 ⟨j.nd, q, fun a ha c r e => ?_⟩
  subst e
  obtain ⟨⟨b, o⟩, d, rfl⟩ := bF.1 ha
  obtain ⟨⟨p, o'⟩, l, e⟩ := bF.1 r
  simp at e; subst e
  have i := h.DI (dt _ l)
  rcases (j.held p o d).2 with g | g
  ·omega
  ·exact Ew h.nd l g
theorem ST.CS (h : ST dd F w W μ L) (W' : World) (L1 : List (Nat × Obj)) : Lo F w μ (Bd μ W W' L1) := fun b a _ => aZ (dS a h.size)
theorem ST.AV (h : ST dd F w W μ L) (W' : World) (L1 : List (Nat × Obj)) : jR μ (Bd μ W W' L1) := fun b o a => by
 unfold Bd; rw [aZ (h.Co a)]; exact a
theorem ST.lf (h : ST dd F w W μ L) (d : ∀ p, p ∈ L0 → p ∈ L) : jR μ (pB W L0) := fun b o a => by
 unfold pB
 rw [aY]
 ·exact h.mem b o a
 ·rintro ⟨o', g⟩
  rw [(h.box b o' (d _ g)).2.1] at a
  cases a
theorem qK.Ip (h : Ex dd w W) (d : ∀ b o, (b, o) ∈ L1 → W.heap[b]? = some o ∧ w.heap.size ≤ b) (g : (L1.map (·.1)).Nodup) : qK dd [] L1 w W :=
 ⟨⟨h.os, h.tape, h.output, h.drawn, h.size, fun b a _ => h.lO b a⟩, fun b o a => ⟨(d b o a).1, .inl (d b o a).2⟩, g⟩
end
def kA (dd : Bool) (P : Program) (f : FuncId) (args : List Value) (w : World) (L0 : List (Nat × Obj)) (K : Value → List (Nat × Obj) → World → Prop) : Prop :=
 Calls P f args.toArray w fun e a => ∃ v L1, e = .returned v ∧ qK dd L0 L1 w a ∧ K v L1 a
def mH (dd : Bool) {α : Type} (P : Program) (f : FuncId) (args : List Value) (w : World) (e : TypeId) (enc : α → List Value) (k : Nat) (l : List α) : Prop :=
 kA dd P f args w [] fun v R _ => jM e enc k v l R
theorem qK.lR {L0 L1 : List (Nat × Obj)} {w a : World} (h : qK true L0 L1 w a) : qK dd L0 L1 w a := ⟨⟨h.ex.os, h.ex.tape, h.ex.output, sO.of (h.ex.drawn rfl), h.ex.size, h.ex.lO⟩, h.held, h.nd⟩
theorem ke.lR {P : Program} {f : FuncId} {args : List Value} {w : World} {v : Value} (h : ke true P f args w v) : ke dd P f args w v := cT h fun _ _ h => ⟨h.1, h.2.lR⟩
theorem kA.lR {P : Program} {f : FuncId} {args : List Value} {w : World} {L0 : List (Nat × Obj)} {K : Value → List (Nat × Obj) → World → Prop} (h : kA true P f args w L0 K) : kA dd P f args w L0 K := cT h fun _ _ ⟨v, L1, h1, a, b⟩ => ⟨v, L1, h1, a.lR, b⟩
theorem mH.lR {α : Type} {P : Program} {f : FuncId} {args : List Value} {w : World} {e : TypeId} {enc : α → List Value} {k : Nat} {l : List α} (h : mH true P f args w e enc k l) : mH dd P f args w e enc k l := kA.lR h
section
variable {P : Program} {E : Nat → Value} {W : World} {d : Option Nat} {ty : TypeId} {pos : String} {af : Array Edge} {g : Option (Nat × Bool)}
 {F : Nat → Prop} {w : World} {μ : jN} {L : List (Nat × Obj)}
theorem Og {K : Value → World → Prop} {K' : Value → List (Nat × Obj) → World → Prop} {f : FuncId} {fv : Operand} {ax : Array Operand} {ats : Array TypeId} {caps : Array Value} {args : List Value} (L0 L2 : List (Nat × Obj)) (a : ST dd F w W μ L) (b : L.Perm (L0 ++ L2)) (l : jz E fv = .func (.func f) #[] caps) (he : ∀ args w, (callFunc f args).run P w = .ok (.enter f args) w) (ha : ax.map (jz E) ++ caps = args.toArray) (k : kA dd P f args W L0 K') (h : ∀ W' v μ' L1, ST dd F w W' μ' (L1 ++ L2) → jR μ μ' → Lo F w μ μ' → K' v L1 W' → K v W') : mL P E ⟨d, .call ⟨.value fv, ax, ats⟩, ty, pos, af, g⟩ W K :=
 Ev l he ha (cT k (fun _ W' ⟨v, L1, h1, i, j⟩ => ⟨v, h1, h W' v _ L1 ((a.perm b).back i) ((a.perm b).AV W' L1) ((a.perm b).CS W' L1) j⟩))
theorem Ls {K : Value → World → Prop} {α : Type} {e : TypeId} {enc : α → List Value} {k : Nat} {l : List α} {f : FuncId} {fv : Operand} {ax : Array Operand} {ats : Array TypeId} {caps : Array Value} {args : List Value} (X Y : List (Nat × Obj)) (a : ST dd F w W μ (X ++ Y)) (n : jz E fv = .func (.func f) #[] caps) (he : ∀ args w, (callFunc f args).run P w = .ok (.enter f args) w) (ha : ax.map (jz E) ++ caps = args.toArray) (m : mH dd P f args W e enc k l) (h : ∀ W' v μ' R, ST dd F w W' μ' (X ++ (R ++ Y)) → jR μ μ' → Lo F w μ μ' → jM e enc k v l R → K v W') : mL P E ⟨d, .call ⟨.value fv, ax, ats⟩, ty, pos, af, g⟩ W K :=
 Og [] (X ++ Y) a (.refl _) n he ha m (fun W' v μ' L1 h1 b j i => h W' v μ' L1 (h1.perm (by rw [← aG, ← aG]; exact List.perm_append_comm.append_right Y)) b j i)
end
theorem ST.qz {w W : World} {μ : jN} {L R : List (Nat × Obj)} (h : ST dd kK w W μ L) (a : ∀ p, p ∈ R → p ∈ L) (g : (R.map (·.1)).Nodup) : qK dd [] R w W :=
 qK.Ip h.ex (fun b o d => ⟨(h.box b o (a _ d)).1, by
  rcases (h.box b o (a _ d)).2.2 with h | h
  ·exact h
  ·exact h.elim⟩) g
theorem oe {P : Program} {E : Nat → Value} {W : World} {d : Option Nat} {ty : TypeId} {pos : String} {af : Array Edge} {g : Option (Nat × Bool)} {α : Type} {e' : TypeId} {enc : α → List Value} {k : Nat} {v : Value} {l : List α} {R : List (Nat × Obj)} {x : Operand} {t e : TypeId} (a : P.underlying t = some (.slice e)) (b : jz E x = v) (h : jM e' enc k v l R) : lD P E ⟨d, .call ⟨.builtin .len, #[x], #[t]⟩, ty, pos, af, g⟩ W (.int .i64 l.length) W := by
 obtain ⟨A, c, rfl⟩ := h.form
 exact yM a b
section
variable {α : Type} {e : TypeId} {enc : α → List Value} {k : Nat} {v : Value} {l : List α} {R : List (Nat × Obj)}
theorem jM.nd (h : jM e enc k v l R) : (R.map (·.1)).Nodup := by
 rcases h with ⟨rfl, rfl, rfl⟩ | ⟨g, cap, a, rfl, rfl, _⟩ <;> simp
end
end Go.Proofs.YtjjjihkifgdhgaaGreat
namespace Go.Proofs.YtjjjihkifgdhgaaGreat
open Go.RowKit
variable {dd : Bool}
def Al (R : List (Nat × Obj)) (k : Nat) (p : Value) (i : Nat) : Prop := ∃ g o, R = [(g, o)] ∧ p = .pointer (some ⟨g, i * k, none⟩)
section
variable {P : Program} {E : Nat → Value} {W : World} {d : Option Nat} {ty : TypeId} {pos : String} {af : Array Edge} {g : Option (Nat × Bool)}
 {F : Nat → Prop} {w : World} {μ : jN} {L : List (Nat × Obj)} {α : Type} {e' : TypeId} {enc : α → List Value} {k : Nat} {v : Value} {l : List α} {R : List (Nat × Obj)}
theorem rr {t e : TypeId} {x b : Operand} {z : IntKind} {i : Int} {x0 : α} (u : P.underlying t = some (.slice e)) (he : ∀ w, (sizeOf e).run P w = .ok k w) (y : jz E x = v) (r : jz E b = .int z i) (h : jM e' enc k v l R) (n : 0 ≤ i) (s : l[i.toNat]? = some x0) :
  ∃ p, Al R k p i.toNat ∧ ∀ W, lD P E ⟨d, .indexAddr t x b, ty, pos, af, g⟩ W p W := by
 have a : i.toNat < l.length := (bJ.1 s).1
 rcases h with ⟨rfl, rfl, rfl⟩ | ⟨m, cap, j, rfl, rfl, h1, G, I, J⟩
 ·simp at a
 refine ⟨.pointer (some ⟨m, i.toNat * k, none⟩), ⟨_, _, rfl, rfl⟩, fun W => ?_⟩
 show (do pure (.value (← Instr.indexAt t (jz E x) (jz E b))) : Sem Next).run P W = _
 rw [y, r]
 have q : 0 ≤ i ∧ i < (l.length : Int) := ⟨n, by omega⟩
 simp [Instr.indexAt, asIntOf, aV u, he W, q, dA]
theorem An (h : jM e' enc k v l R) (hk : ∀ x, (enc x).length = k) {p : Value} {i : Nat} (hp : Al R k p i) {x0 : α} (n : l[i]? = some x0) :
  ∃ g a cap, R = [(g, .cells a e' (0, 0))] ∧ v = .slice (some ⟨g, 0, none⟩) l.length cap ∧ l.length ≤ cap ∧ cap ≤ maxLen ∧ a.size = cap * k ∧ a.toList.take (l.length * k) = (l.map enc).flatten ∧ p = .pointer (some ⟨g, i * k, none⟩) ∧ ∀ j y, (enc x0)[j]? = some y → a[i * k + j]? = some y := by
 have d : i < l.length := (bJ.1 n).1
 rcases h with ⟨rfl, rfl, rfl⟩ | ⟨r, cap, a, rfl, rfl, h1, s, t, m⟩
 ·simp at d
 obtain ⟨g2, o, q, rfl⟩ := hp
 cases q
 refine ⟨r, a, cap, rfl, rfl, h1, s, t, m, rfl, fun j y u => ?_⟩
 have := vV hk l i x0 n j y u
 rw [← m] at this
 have b : i * k + j < l.length * k := by
  have := (bJ.1 this).1
  simp at this; omega
 rw [dP b] at this
 simpa using this
theorem vS {A : List (Nat × Obj)} (hH : nA μ A W) (d : ∀ q, q ∈ R → q ∈ A) (h : jM e' enc k v l R) (hk : ∀ x, (enc x).length = k) {p : Value} {i : Nat} (hp : Al R k p i) {x0 : α} (m : l[i]? = some x0) {t : TypeId} (g : ∀ w, (isAgg t).run P w = .ok true w) (j : ∀ w, (sizeOf t).run P w = .ok k w) : (Instr.loadAt t p).run P W = .ok (.agg (enc x0).toArray) W := by
 obtain ⟨n, a, cap, rfl, rfl, _, _, _, _, rfl, b⟩ := An h hk hp m
 exact BG g (enc x0) (by rw [hk]; exact j) (hH.2 _ _ (d _ (bM.2 rfl))) b
theorem IB {A : List (Nat × Obj)} (hH : nA μ A W) (d : ∀ q, q ∈ R → q ∈ A) (h : jM e' enc k v l R) (hk : ∀ x, (enc x).length = k) {p : Value} {i : Nat} (hp : Al R k p i) {x0 : α} (j : l[i]? = some x0) {t : TypeId} {y : Value} (m : enc x0 = [y]) (g : ∀ w, (isAgg t).run P w = .ok false w) : (Instr.loadAt t p).run P W = .ok y W := by
 obtain ⟨n, a, cap, rfl, rfl, _, _, _, _, rfl, b⟩ := An h hk hp j
 exact BB g (hH.2 _ _ (d _ (bM.2 rfl))) (b 0 y (by rw [m]; rfl))
theorem Fa (hk : ∀ x, (enc x).length = k) : ∀ (l : List α) (i : Nat) (y : α), i < l.length → ((l.set i y).map enc).flatten = (l.map enc).flatten.take (i * k) ++ enc y ++ (l.map enc).flatten.drop (i * k + k)
 | [], i, y, h => by simp at h
 | z :: l, 0, y, h => by
  simp [hk]
 | z :: l, i + 1, y, h => by
  have := Fa hk l i y (by simpa using h)
  simp only [List.set_cons_succ, bD, bO, this]
  have h1 : (i + 1) * k = (enc z).length + i * k := by rw [hk, cL]; omega
  rw [h1, gW, ek, List.drop_length_add_append]
  simp
theorem Lw {K : Value → World → Prop} (X : List (Nat × Obj)) {Y : List (Nat × Obj)} {t : TypeId} {x y : Operand} {p u : Value} {i : Nat} {x0 x1 : α} (j : ST dd F w W μ (X ++ (R ++ Y))) (h : jM e' enc k v l R) (hk : ∀ x, (enc x).length = k) (h1 : ∀ x, ∀ u ∈ enc x, u.oneCell' = true) (Z : jz E x = p) (hy : jz E y = u) (hu : u.cells = (enc x1).toArray) (hp : Al R k p i) (I : l[i]? = some x0) (T : ∀ w, (sizeOf t).run P w = .ok k w) (Q : ∀ W' R', ST dd F w W' μ (X ++ (R' ++ Y)) → jM e' enc k v (l.set i x1) R' → K undef W') : mL P E ⟨d, .store t x y, ty, pos, af, g⟩ W K := by
 have s : i < l.length := (bJ.1 I).1
 obtain ⟨n, a, cap, rfl, rfl, G, M, r, O, rfl, h6⟩ := An h hk hp I
 have hle : i * k + k ≤ cap * k := by
  have : (i + 1) * k ≤ cap * k := cM _ (by omega)
  rwa [cL, jd] at this
 have m : i * k + k ≤ l.length * k := by
  have : (i + 1) * k ≤ l.length * k := cM _ (by omega)
  rwa [cL, jd] at this
 have b : u.cells.size = k := by rw [hu]; simp [hk]
 have U := (j.box n (.cells a e' (0, 0)) (by simp)).1
 have hlen : l.length * k ≤ cap * k := cM _ G
 refine .inr (.inl ⟨W.setRow n (a.toList.take (i * k) ++ (enc x1) ++ a.toList.drop (i * k + k)).toArray, ?_, Q _ [(n, .cells (a.toList.take (i * k) ++ (enc x1) ++ a.toList.drop (i * k + k)).toArray e' (0, 0))] (j.store _) (.inr ⟨n, cap, _, by simp, rfl, by simpa using G, M, ?_, ?_⟩)⟩)
 ·show (do Instr.storeAt t (jz E x) (jz E y); pure .skip : Sem Next).run P W = _
  rw [Z, hy]
  have := BJ P (off := i * k) u (by rw [b]; exact T) (by rw [hu]; simpa using h1 x1) U (by rw [b, r]; exact hle)
  simp only [bY, this, bK, cX, b]
  rw [hu]
 ·show ((a.toList.take (i * k) ++ (enc x1) ++ a.toList.drop (i * k + k)).toArray).size = _
  have q : a.toList.length = cap * k := by simpa using r
  rw [dx, aD, aD, dv, gG, hk, q, dC (by omega)]; omega
 ·rw [gP, Fa hk l i x1 s, ← O]
  have J : (a.toList.take (l.length * k)).take (i * k) = a.toList.take (i * k) := by rw [gu]; congr 1; omega
  have L : (a.toList.take (l.length * k)).drop (i * k + k) = (a.toList.drop (i * k + k)).take (l.length * k - (i * k + k)) := by rw [iq]
  rw [J, L]
  show List.take (l.length * k) (a.toList.take (i * k) ++ enc x1 ++ a.toList.drop (i * k + k)) = _
  have q : a.toList.length = cap * k := by simpa using r
  have z : (a.toList.take (i * k) ++ enc x1).length = i * k + k := by rw [aD, dv, hk, q, dC (by omega)]
  rw [fe, dB (by rw [z]; exact m), z]
theorem DW (hk : ∀ x, (enc x).length = k) : ∀ (l : List α) (i : Nat), i ≤ l.length → ((l.take i).map enc).flatten = (l.map enc).flatten.take (i * k)
 | [], i, h => by simp
 | z :: l, 0, h => by simp
 | z :: l, i + 1, h => by
  have := DW hk l i (by simpa using h)
  simp only [List.take_succ_cons, bD, bO, this]
  rw [show (i + 1) * k = (enc z).length + i * k by rw [hk, cL]; omega, gW]
theorem AZ {t e : TypeId} {x ih : Operand} {J : IntKind} {i : Int} (n : P.underlying t = some (.slice e)) (he : ∀ w, (sizeOf e).run P w = .ok k w) (p : jz E x = v) (m : jz E ih = .int J i) (h : jM e' enc k v l R) (hk : ∀ x, (enc x).length = k) (s : 0 ≤ i) (I : i ≤ l.length) :
  ∃ q, jM e' enc k q (l.take i.toNat) R ∧ ∀ W, lD P E ⟨d, .slice t x none (some ih) none, ty, pos, af, g⟩ W q W := by
 have a : i.toNat ≤ l.length := by omega
 rcases h with ⟨rfl, rfl, rfl⟩ | ⟨j, cap, b, rfl, rfl, h1, u, y, z⟩
 ·have : i = 0 := by simp at I; omega
  subst this
  refine ⟨.slice none 0 0, .inl ⟨rfl, by simp, rfl⟩, fun W => ?_⟩
  show (do pure (.value (← Instr.sliceAt t (jz E x) none (some (jz E ih)) none)) : Sem Next).run P W = _
  rw [p, m]
  simp [Instr.sliceAt, Instr.slice, Instr.sliceBounds, Instr.sliceBound, asIntOf, aV n, he W]
 ·refine ⟨.slice (some ⟨j, 0, none⟩) (l.take i.toNat).length cap, .inr ⟨j, cap, b, rfl, rfl, by simp; omega, u, y, ?_⟩, fun W => ?_⟩
  ·have r : (l.take i.toNat).length = i.toNat := by rw [dv]; omega
   have hle : i.toNat * k ≤ l.length * k := cM _ a
   rw [r, DW hk l i.toNat a, ← z, gu, dC hle]
  ·show (do pure (.value (← Instr.sliceAt t (jz E x) none (some (jz E ih)) none)) : Sem Next).run P W = _
   rw [p, m]
   have G : 0 ≤ i ∧ i ≤ (cap : Int) := ⟨s, by omega⟩
   simp [Instr.sliceAt, Instr.slice, Instr.sliceBounds, Instr.sliceBound, asIntOf, aV n, he W, G, dA]
   omega
theorem ET {u : pA α} {t e : TypeId} {x r : Operand} {ik : IntKind} {i : Int} (Z : P.underlying t = some (.slice e)) (he : ∀ w, (sizeOf e).run P w = .ok k w) (n : jz E x = v) (Q : jz E r = .int ik i) (h : Sl u k μ v l) (z : 0 ≤ i) (R : i ≤ l.length) :
  ∃ s, (Sl u k μ s (l.drop i.toNat) ∧ ∀ B, Fr B v → Fr B s) ∧ ∀ W, lD P E ⟨d, .slice t x (some r) none none, ty, pos, af, g⟩ W s W := by
 obtain ⟨A, c, rfl, h2, h3, G⟩ := h
 have U : i.toNat ≤ l.length := by omega
 refine ⟨.slice (if c = i.toNat then A else A.map (·.add (i.toNat * k))) (l.drop i.toNat).length (c - i.toNat), ⟨⟨_, _, rfl, by simp; omega, by omega, fun hp => ?_⟩, fun B O b m => ?_⟩, fun W => ?_⟩
 ·have Y : i.toNat < l.length := by simp at hp; omega
  obtain ⟨b, off, cs, T, fr, rfl, I, J⟩ := G (by omega)
  refine ⟨b, off + i.toNat * k, cs, T, fr, ?_, I, fun j x n => ?_⟩
  ·rw [aY (by omega)]; simp [dA]
  ·rw [dJ] at n
   obtain ⟨ys, L, M, p⟩ := J _ x n
   refine ⟨ys, L, M, fun q y hy => ?_⟩
   have := p q y hy
   rw [cL] at this
   rw [show off + i.toNat * k + j * k + q = off + (i.toNat * k + j * k) + q by omega]
   exact this
 ·refine O b ?_
  cases A with
  | none => simp [Value.ownBlock] at m
  | some a =>
   split at m
   ·exact m
   ·obtain ⟨b', o', s'⟩ := a
    cases s' <;> simp [Value.ownBlock, Addr.add] at m ⊢ <;> split at m <;> exact m
 ·show (do pure (.value (← Instr.sliceAt t (jz E x) (some (jz E r)) none none)) : Sem Next).run P W = _
  rw [n, Q]
  have m : 0 ≤ i ∧ i ≤ (l.length : Int) := ⟨z, R⟩
  simp [Instr.sliceAt, Instr.slice, Instr.sliceBounds, Instr.sliceBound, asIntOf, aV Z, he W, m]
end
end Go.Proofs.YtjjjihkifgdhgaaGreat
namespace Go.Proofs.YtjjjihkifgdhgaaGreat
open Go.RowKit
variable {dd : Bool}
section
variable {α : Type} {e : TypeId} {enc : α → List Value} {k : Nat} {v : Value} {l : List α} {R : List (Nat × Obj)} {μ : jN}
theorem jM.one (h : jM e enc k v l R) : v.oneCell' = true := by obtain ⟨A, c, rfl⟩ := h.form; rfl
theorem Sl.one {a : pA α} (h : Sl a k μ v l) : v.oneCell' = true := by obtain ⟨A, c, rfl⟩ := h.form; rfl
theorem Sl.isNil {d : pA α} {n c : Nat} (h : Sl d k μ (.slice none n c) l) : l = [] := by
 obtain ⟨A, j, h1, m, p, g⟩ := h
 cases h1
 rcases ee l.length with a | a
 ·exact dT.1 a
 ·obtain ⟨b, off, cs, T, fr, i, _⟩ := g a
  cases i
theorem jM.isNil {n c : Nat} (h : jM e enc k (.slice none n c) l R) : l = [] := by
 rcases h with ⟨h1, rfl, rfl⟩ | ⟨g, cap, a, h1, _⟩
 ·rfl
 ·cases h1
theorem ST.RZ {w W : World} {μ : jN} {L1 L2 : List (Nat × Obj)} (h : ST dd kK w W μ (L1 ++ L2)) : qK dd [] L1 w W :=
 qK.Ip h.ex (fun b o a => ⟨(h.box b o (cD _ a)).1, by
  rcases (h.box b o (cD _ a)).2.2 with h | h
  ·exact h
  ·exact h.elim⟩) (by have := h.nd; rw [cE] at this; exact (bT.1 this).1)
theorem ST.Sc {w W : World} {μ : jN} {L0 L1 L2 : List (Nat × Obj)} (h : ST dd (keys L0) w W μ (L1 ++ L2)) : qK dd L0 L1 w W :=
 ⟨⟨h.os, h.tape, h.output, h.drawn, h.size, h.lO⟩, fun b o a => ⟨(h.box b o (cD _ a)).1, (h.box b o (cD _ a)).2.2⟩, by have := h.nd; rw [cE] at this; exact (bT.1 this).1⟩
end
end Go.Proofs.YtjjjihkifgdhgaaGreat
namespace Go.Proofs.YtjjjihkifgdhgaaGreat
open Go.RowKit
variable {dd : Bool}
def kJ {κ β : Type} (beq : κ → κ → Bool) (l : List (κ × β)) (k : κ) : Option β := (l.find? (fun p => beq k p.1)).map (·.2)
def nL {κ β : Type} (beq : κ → κ → Bool) (l : List (κ × β)) (k : κ) (v : β) : List (κ × β) :=
 match l.findIdx? (fun p => beq k p.1) with
 | some i => l.set i (k, v)
 | none => l ++ [(k, v)]
structure uh {κ β : Type} (kenc : κ → Value) (vf : β → Value) (l : List (κ × β)) (es : Array MapEntry) (clock : Nat) : Prop where
 CY : es.toList.map (fun e => (e.key, e.val)) = l.map (fun p => (kenc p.1, vf p.2))
 born : es.toList.Pairwise (fun a b => a.born < b.born)
 lt : ∀ e ∈ es.toList, e.born < clock
def kZ {κ β : Type} (kenc : κ → Value) (vf : β → Value) (v : Value) (l : List (κ × β)) (R : List (Nat × Obj)) : Prop :=
 ∃ m es clock, v = .map (some m) ∧ R = [(m, .map es clock)] ∧ uh kenc vf l es clock
def uj {κ β : Type} (kenc : κ → Value) (vf : β → Value) (μ : jN) (v : Value) (l : List (κ × β)) : Prop :=
 (v = .map none ∧ l = []) ∨ ∃ m es clock, v = .map (some m) ∧ μ m = some (.map es clock) ∧ uh kenc vf l es clock
theorem uj.mono {κ β : Type} {kenc : κ → Value} {vf : β → Value} {μ μ' : jN} {v : Value} {l : List (κ × β)} (h : uj kenc vf μ v l) (d : jR μ μ') : uj kenc vf μ' v l := by
 rcases h with h | ⟨m, es, clock, h1, a, b⟩
 ·exact .inl h
 ·exact .inr ⟨m, es, clock, h1, d _ _ a, b⟩
theorem kZ.at {κ β : Type} {kenc : κ → Value} {vf : β → Value} {μ : jN} {v : Value} {l : List (κ × β)} {R : List (Nat × Obj)} (h : kZ kenc vf v l R) (d : ∀ b o, (b, o) ∈ R → μ b = some o) : uj kenc vf μ v l := by
 obtain ⟨m, es, clock, rfl, rfl, a⟩ := h
 exact .inr ⟨m, es, clock, rfl, d _ _ (bM.2 rfl), a⟩
structure pg {κ : Type} (P : Program) (kt : TypeId) (kenc : κ → Value) (beq : κ → κ → Bool) : Prop where
 check : ∀ b k W, (Instr.checkKey b 10000 kt (kenc k)).run P W = .ok () W
 find : ∀ (k : κ) (l : List κ) (es : List MapEntry), es.map (·.key) = l.map kenc → ∀ W, (Instr.findKey kt (kenc k) es).run P W = .ok ((l.findIdx? (fun x => beq k x)).bind fun i => (es[i]?).map fun e => (i, e.val)) W
 eq : ∀ k x, beq k x = true → kenc x = kenc k
 bits : ∀ k, Instr.sameBits 10000 (kenc k) (kenc k) = true
section
variable {P : Program} {W : World} {κ : Type} {kt : TypeId} {kenc : κ → Value} {beq : κ → κ → Bool}
theorem BR (a : ∀ x y W, (Op.equal kt (kenc x) (kenc y)).run P W = .ok (beq x y) W) (k : κ) : ∀ (l : List κ) (es : List MapEntry) (i : Nat), es.map (·.key) = l.map kenc →
  (Instr.findAsking kt (kenc k) es i).run P W = .ok ((l.findIdx? (fun x => beq k x)).bind fun j => (es[j]?).map fun e => (i + j, e.val)) W
 | [], [], i, h => by simp [Instr.findAsking]
 | [], _ :: _, i, h => by simp at h
 | _ :: _, [], i, h => by simp at h
 | x :: l, e :: es, i, h => by
  simp only [bD, aW] at h
  obtain ⟨h1, b⟩ := h
  simp only [Instr.findAsking, bY, h1, a, bK, eK]
  cases d : beq k x with
  | true => simp
  | false =>
   simp only [aB, aH]
   rw [BR a k l es (i + 1) b]
   cases l.findIdx? (fun x => beq k x) with
   | none => rfl
   | some j => simp [ek, Nat.add_comm 1 j]
theorem JR {kind : TypeDesc} (hk : ∀ a b, Instr.sameNow kind (.agg a) b = none) (a : Array Value) : ∀ (es : List MapEntry) (i : Nat), Instr.findNow kind (.agg a) es i = if es = [] then some none else none
 | [], i => by simp [Instr.findNow]
 | e :: es, i => by simp [Instr.findNow, hk]
theorem pg.struct {enc : κ → List Value} {fs : Array Field} (p : P.underlying kt = some (.struct fs)) (n : ∀ d x y W, (Op.equalIn (d + 10) kt (.agg (enc x).toArray) (.agg (enc y).toArray)).run P W = .ok (beq x y) W) (m : ∀ b k W, (Instr.checkKey b 10000 kt (.agg (enc k).toArray)).run P W = .ok () W) (he : ∀ k x, beq k x = true → x = k) (j : ∀ k, Instr.sameBits 10000 (.agg (enc k).toArray) (.agg (enc k).toArray) = true) : pg P kt (fun x => .agg (enc x).toArray) beq where
 check := m
 find := fun k l es h W => by
  have g : ∀ x y W, (Op.equal kt (.agg (enc x).toArray) (.agg (enc y).toArray)).run P W = .ok (beq x y) W := fun x y W => n 9990 x y W
  simp only [Instr.findKey, bY, aV p, bK]
  rw [JR (fun a b => by cases b <;> rfl)]
  by_cases i : es = []
  ·subst i
   have : l = [] := by simpa using h.symm
   subst this
   simp
  ·rw [aY i]
   dsimp only
   rw [show Instr.findAsking kt (.agg (enc k).toArray) es = Instr.findAsking kt (.agg (enc k).toArray) es 0 from rfl, BR g k l es 0 h]
   simp
 eq := fun k x h => by rw [he k x h]
 bits := j
theorem lI {a b : ByteArray} : kD a b = true ↔ a = b := by
 unfold kD
 rw [eZ, eZ]
 constructor
 ·intro h
  have h1 : a.data.toList = b.data.toList := by simpa using h
  exact iI (Array.toList_inj.1 h1)
 ·rintro rfl
  simp
theorem DK (a b : ByteArray) : (a == b) = kD a b := by
 rw [bH, lI]
 constructor
 ·intro h
  have h1 : (a.data == b.data) = true := h
  exact iI (by simpa using h1)
 ·rintro rfl
  show (a.data == a.data) = true
  simp
theorem BU (k : ByteArray) : ∀ (l : List ByteArray) (es : List MapEntry) (i : Nat), es.map (·.key) = l.map Value.string →
  Instr.findNow .string (.string k) es i = some ((l.findIdx? (fun x => kD k x)).bind fun j => (es[j]?).map fun e => (i + j, e.val))
 | [], [], i, h => by simp [Instr.findNow]
 | [], _ :: _, i, h => by simp at h
 | _ :: _, [], i, h => by simp at h
 | x :: l, e :: es, i, h => by
  simp only [bD, aW] at h
  obtain ⟨h1, a⟩ := h
  simp only [Instr.findNow, h1, Instr.sameNow, DK, eK]
  cases b : kD k x with
  | true => simp
  | false =>
   simp only [aB, aH]
   rw [BU k l es (i + 1) a]
   cases l.findIdx? (fun x => kD k x) with
   | none => rfl
   | some j => simp [ek, Nat.add_comm 1 j]
theorem xU (a : P.underlying kt = some .string) (n : Nat) (b : Bool) (k : ByteArray) (W : World) : (Instr.checkKey b (n + 1) kt (.string k)).run P W = .ok () W := by
 simp [Instr.checkKey, aV a]
theorem pg.string (a : P.underlying kt = some .string) : pg P kt Value.string kD where
 check := fun b k W => xU a 9999 b k W
 find := fun k l es h W => by
  simp only [Instr.findKey, bY, aV a, bK]
  have := BU k l es 0 h
  rw [this]
  simp
 eq := fun k x h => by rw [lI.1 h]
 bits := fun k => by simp only [Instr.sameBits]; rw [DK]; exact lI.2 rfl
variable {β : Type} {vf : β → Value} {E : Nat → Value} {d : Option Nat} {ty : TypeId} {pos : String} {af : Array Edge} {g : Option (Nat × Bool)} {F : Nat → Prop} {w : World} {μ : jN} {L : List (Nat × Obj)}
theorem uh.keys {l : List (κ × β)} {es : Array MapEntry} {clock : Nat} (h : uh kenc vf l es clock) : es.toList.map (·.key) = (l.map (·.1)).map kenc := by
 have := bN (List.map Prod.fst) h.CY
 simpa [fF] using this
theorem uh.length {l : List (κ × β)} {es : Array MapEntry} {clock : Nat} (h : uh kenc vf l es clock) : es.size = l.length := by
 have := bN List.length h.CY
 simpa using this
theorem uh.get {l : List (κ × β)} {es : Array MapEntry} {clock : Nat} (h : uh kenc vf l es clock) (k : κ) :
  (((l.map (·.1)).findIdx? (fun x => beq k x)).bind fun i => (es.toList[i]?).map fun e => (i, e.val)) = (l.findIdx? (fun p => beq k p.1)).bind fun i => (l[i]?).map fun p => (i, vf p.2) := by
 rw [gv]
 show ((l.findIdx? (fun p => beq k p.1)).bind _) = _
 congr 1
 funext i
 have := bN (fun q => q[i]?) h.CY
 simp only [eU] at this
 cases h1 : es.toList[i]? with
 | none => rw [h1] at this; cases a : l[i]? with
  | none => rfl
  | some p => rw [a] at this; cases this
 | some e => rw [h1] at this; cases a : l[i]? with
  | none => rw [a] at this; cases this
  | some p => rw [a] at this; simp at this; simp [this.2]
theorem xj (l : List (κ × β)) (k : κ) : kJ beq l k = (l.findIdx? (fun p => beq k p.1)).bind fun i => (l[i]?).map (·.2) := by
 induction l with
 | nil => rfl
 | cons p l ih =>
  simp only [kJ, fw, eK] at ih ⊢
  cases beq k p.1 with
  | true => rfl
  | false =>
   simp only [aB, aH]
   rw [ih]
   cases l.findIdx? (fun p => beq k p.1) <;> simp
theorem IH {t e : TypeId} {m x : Operand} {s z : Value} {l : List (κ × β)} {k : κ} (K : pg P kt kenc beq) (q : P.underlying t = some (.map kt e)) (b : ∀ w, (zeroValue e).run P w = .ok z w) (hm : jz E m = s) (G : jz E x = kenc k) (v : uj kenc vf (hp W) s l) :
  lD P E ⟨d, .lookup t m x false, ty, pos, af, g⟩ W (((kJ beq l k).map vf).getD z) W := by
 show (do pure (.value (← Instr.lookup t (jz E m) (jz E x) false)) : Sem Next).run P W = _
 rw [hm, G]
 rcases v with ⟨rfl, rfl⟩ | ⟨r, es, clock, rfl, y, h⟩
 ·have := K.find k [] [] rfl W
  simp [Instr.lookup, aV q, K.check, this, b W, kJ]
 ·have a : W.heap[r]? = some (.map es clock) := y
  have u : (getObj r : Sem Obj).run P W = .ok (.map es clock) W := by simp [getObj, Sem.run, a]
  have j := K.find k _ _ h.keys W
  rw [h.get k] at j
  simp only [Instr.lookup, bY, aV q, bK, u, cX, K.check, j, xj]
  cases I : l.findIdx? (fun p => beq k p.1) with
  | none => simp [b W]
  | some i =>
   cases n : l[i]? with
   | none => simp [n, b W]
   | some p => simp [n]
theorem rz {l : List (κ × β)} {k : κ} {i : Nat} (h : l.findIdx? (fun p => beq k p.1) = some i) : ∃ p, l[i]? = some p ∧ beq k p.1 = true := by
 rw [dW] at h
 obtain ⟨h1, a, _⟩ := h
 exact ⟨l[i], cU h1, a⟩
theorem uh.put {l : List (κ × β)} {es : Array MapEntry} {clock : Nat} (h : uh kenc vf l es clock) (k : κ) (v : β) :
  match l.findIdx? (fun p => beq k p.1) with
  | some i => uh kenc vf (l.set i (k, v)) (es.modify i fun e => { e with key := kenc k, val := vf v }) clock
  | none => uh kenc vf (l ++ [(k, v)]) (es.push { key := kenc k, val := vf v, born := clock }) (clock + 1) := by
 cases s : l.findIdx? (fun p => beq k p.1) with
 | none =>
  refine ⟨?_, ?_, ?_⟩
  ·simp [h.CY]
  ·simp only [Array.toList_push, cO]
   exact ⟨h.born, by simp, fun a ha b r => by simp at r; subst r; exact h.lt a ha⟩
  ·intro e he
   simp at he
   rcases he with he | rfl
   ·exact Nat.lt_succ_of_lt (h.lt e (by simpa using he))
   ·exact bn _
 | some i =>
  obtain ⟨p, hp, _⟩ := rz s
  have w : i < l.length := (bJ.1 hp).1
  have d : (es.modify i fun e => { e with key := kenc k, val := vf v }).toList.map (·.born) = es.toList.map (·.born) := by
   apply et
   intro j
   simp only [eU, dF, dO]
   split
   ·cases es[j]? <;> simp
   ·rfl
  refine ⟨?_, ?_, ?_⟩
  ·apply et
   intro j
   have m := bN (fun q => q[j]?) h.CY
   simp only [eU, dF] at m
   simp only [eU, dF, dO, eT]
   by_cases g : i = j
   ·subst g
    simp only [aM]
    rw [aZ w]
    cases t : es[i]? with
    | none => rw [t, hp] at m; cases m
    | some e => rfl
   ·rw [aY g, aY g]; exact m
  ·have := h.born
   rw [← fG (f := fun e : MapEntry => e.born) (R := (· < ·))] at this ⊢
   rw [d]; exact this
  ·intro e he
   have : e.born ∈ es.toList.map (·.born) := by rw [← d]; exact bF.2 ⟨e, he, rfl⟩
   obtain ⟨e', n, u⟩ := bF.1 this
   rw [← u]; exact h.lt e' n
theorem xJ {W : World} {r : Nat} {es : Array MapEntry} {c : Nat} (a : W.heap[r]? = some (.map es c)) (o' : Obj) : (setObj r o').run P W = .ok () (ChangeMaps.setBlock W r o') := by
 simp [setObj, Sem.run, a, ChangeMaps.setBlock]
theorem ST.setBlock {A B : List (Nat × Obj)} {b : Nat} {o : Obj} (h : ST dd F w W μ (A ++ (b, o) :: B)) (o' : Obj) : ST dd F w (ChangeMaps.setBlock W b o') μ (A ++ (b, o') :: B) := by
 have d := (h.box b o (by simp)).1
 have a := na d
 refine h.put ⟨rfl, rfl, rfl, aU _, by simp [ChangeMaps.setBlock]⟩ (fun k hk => ?_) ?_
 ·simp only [ChangeMaps.setBlock]
  rw [Array.getElem?_setIfInBounds_ne (fun e => hk e.symm)]
 ·simp only [ChangeMaps.setBlock]
  rw [Array.getElem?_setIfInBounds_self_of_lt a]
theorem Bz {L : Value → World → Prop} (X : List (Nat × Obj)) {Y R : List (Nat × Obj)} {t e : TypeId} {m x y : Operand} {J : Value} {l : List (κ × β)} {k : κ} {v : β} (K : pg P kt kenc beq) (Q : P.underlying t = some (.map kt e)) (n : ST dd F w W μ (X ++ (R ++ Y))) (h : kZ kenc vf J l R) (hm : jz E m = J) (U : jz E x = kenc k) (Z : jz E y = vf v) (O : ∀ W' R', ST dd F w W' μ (X ++ (R' ++ Y)) → kZ kenc vf J (nL beq l k v) R' → L undef W') : mL P E ⟨d, .mapUpdate t m x y, ty, pos, af, g⟩ W L := by
 obtain ⟨b, es, clock, rfl, rfl, z⟩ := h
 have G : W.heap[b]? = some (.map es clock) := (n.box b (.map es clock) (by simp)).1
 have M : (getObj b : Sem Obj).run P W = .ok (.map es clock) W := by simp [getObj, Sem.run, G]
 have r := K.find k _ _ z.keys W
 rw [z.get k] at r
 have a := z.put (beq := beq) k v
 have j : ∀ W', (Instr.mapUpdate t (.map (some b)) (kenc k) (vf v)).run P W = .ok () W' → (execOp (jz E) ⟨d, .mapUpdate t m x y, ty, pos, af, g⟩).run P W = .ok .skip W' := by
  intro W' T
  show (do Instr.mapUpdate t (jz E m) (jz E x) (jz E y); pure .skip : Sem Next).run P W = _
  rw [hm, U, Z]
  simp [T]
 cases s : l.findIdx? (fun p => beq k p.1) with
 | none =>
  rw [s] at r a
  refine .inr (.inl ⟨ChangeMaps.setBlock W b (.map (es.push { key := kenc k, val := vf v, born := clock }) (clock + 1)), j _ ?_, O _ [(b, _)] (n.setBlock _) ⟨b, _, _, rfl, rfl, ?_⟩⟩)
  ·simp [Instr.mapUpdate, aV Q, M, K.check, r, xJ G]
  ·rw [nL, s]; exact a
 | some i =>
  obtain ⟨p, hp, I⟩ := rz s
  rw [s] at r a
  simp only [aA, hp, dD] at r
  have u : ((es[i]?).map (·.key)).getD (kenc k) = kenc k := by
   have := bN (fun q => q[i]?) z.keys
   simp only [eU, hp, dD, dF] at this
   rw [this]
   simp [K.eq k p.1 I]
  refine .inr (.inl ⟨ChangeMaps.setBlock W b (.map (es.modify i fun e => { e with key := kenc k, val := vf v }) clock), j _ ?_, O _ [(b, _)] (n.setBlock _) ⟨b, _, _, rfl, rfl, ?_⟩⟩)
  ·simp only [Instr.mapUpdate, bY, aV Q, M, K.check, r, bK, u, Instr.keyThatStays, K.bits, aM, cX]
   exact xJ G _
  ·rw [nL, s]; exact a
theorem HA {b : Value → World → Prop} {t : TypeId} (kenc : κ → Value) (vf : β → Value) (a : ST dd F w W μ L) (h : ∀ W' v R, ST dd F w W' μ (R ++ L) → kZ kenc vf v [] R → b v W') : mL P E ⟨d, .makeMap t none, ty, pos, af, g⟩ W b :=
 .inl ⟨.map (some W.heap.size), W.alloc (.map #[] 0), by
   show (do pure (.value (← Instr.makeMap t none)) : Sem Next).run P W = _
   simp [Instr.makeMap, newObj, Sem.run], h _ _ [(W.heap.size, .map #[] 0)] (a.alloc _) ⟨_, _, _, rfl, rfl, ⟨rfl, by simp, by simp⟩⟩⟩
end
end Go.Proofs.YtjjjihkifgdhgaaGreat
namespace Go.Proofs.YtjjjihkifgdhgaaGreat
open Go.RowKit
variable {dd : Bool}
open Classical in
noncomputable def D7 {α β : Type} (l : List α) (f : List α → Option β) : Option β :=
 if h : ∃ r, ∀ o, o.Perm l → f o = some r then some h.choose else none
theorem FI {α β : Type} {l : List α} {f : List α → Option β} {r : β} (h : ∀ o, o.Perm l → f o = some r) : D7 l f = some r := by
 have a : ∃ r, ∀ o, o.Perm l → f o = some r := ⟨r, h⟩
 unfold D7
 rw [dif_pos a]
 have h1 := a.choose_spec l (.refl l)
 rw [h l (.refl l)] at h1
 exact h1.symm
end Go.Proofs.YtjjjihkifgdhgaaGreat
namespace Go.Proofs.YtjjjihkifgdhgaaGreat
open Go.RowKit
variable {dd : Bool}
def Jk {α β : Type} (P : Program) (fv : Value) (μ : jN) (a : α → List Value) (b : β → Value) (pm : α → Option β) : Prop :=
 ∃ f caps, fv = .func (.func f) #[] caps ∧ (∀ args w, (callFunc f args).run P w = .ok (.enter f args) w) ∧ ∀ W x r, jR μ (hp W) → pm x = some r → ke true P f (a x ++ caps.toList) W (b r)
def zq {α β : Type} (P : Program) (fv : Value) (μ : jN) (a : α → List Value) (b : β → Value) (pm : α → Option β) : Prop :=
 ∃ f first caps, fv = .func (.func f) first caps ∧ (∀ args w, (callFunc f args).run P w = .ok (.enter f args) w) ∧ ∀ W x r, jR μ (hp W) → pm x = some r → ke false P f (first.toList ++ (a x ++ caps.toList)) W (b r)
theorem zq.form {α β : Type} {P : Program} {fv : Value} {μ : jN} {d : α → List Value} {g : β → Value} {pm : α → Option β} (h : zq P fv μ d g pm) : ∃ f a b, fv = .func f a b := let ⟨f, a, b, h, _⟩ := h; ⟨_, a, b, h⟩
section
variable {P : Program} {W : World} {E : Nat → Value} {d : Option Nat} {ty : TypeId} {pos : String} {af : Array Edge} {g : Option (Nat × Bool)} {F : Nat → Prop} {w : World} {μ μ0 : jN} {L : List (Nat × Obj)}
theorem zq.mono {α β : Type} {fv : Value} {a : α → List Value} {b : β → Value} {pm : α → Option β} (h : zq P fv μ a b pm) (i : jR μ μ0) : zq P fv μ0 a b pm := by
 obtain ⟨f, first, caps, h1, d, g⟩ := h
 exact ⟨f, first, caps, h1, d, fun W x r h => g W x r (i.trans h)⟩
theorem OD {α β : Type} {K : Value → World → Prop} {fv : Value} {b : α → List Value} {k : β → Value} {pm : α → Option β} {i : Operand} {ax : Array Operand} {ats : Array TypeId} (x : α) {r : β} (a : ST false F w W μ L) (q : zq P fv μ0 b k pm) (t : jR μ0 μ) (s : jz E i = fv) (ha : ax.map (jz E) ++ (#[] : Array Value) = (b x).toArray) (hm : pm x = some r) (h : ∀ W', ST false F w W' μ L → K (k r) W') : mL P E ⟨d, .call ⟨.value i, ax, ats⟩, ty, pos, af, g⟩ W K := by
 obtain ⟨f, first, caps, rfl, l, m⟩ := q
 have j : ax.map (jz E) = (b x).toArray := by simpa using ha
 refine .inr (.inr ⟨f, (first.toList ++ (b x ++ caps.toList)).toArray, ?_, cT (m W x r (t.trans a.jy) hm) (fun _ _ ⟨n, p⟩ => ⟨_, n, h _ (a.F3 p)⟩)⟩)
 show (do let d ← resolve (jz E) ⟨.value i, ax, ats⟩ ty; invoke d.target d.args : Sem Next).run P W = _
 simp only [resolve, s, Deferred.ofValue, bY, cX, bK, invoke, j, l]
 congr 2
 simp
end
end Go.Proofs.YtjjjihkifgdhgaaGreat
namespace Go.Proofs.YtjjjihkifgdhgaaGreat
open Go.RowKit
variable {dd : Bool}
def BE (A : List (Nat × Obj)) : jN := fun b => (A.find? (fun p => p.1 == b)).map (·.2)
theorem lN {A : List (Nat × Obj)} {W : World} (h : ∀ b o, (b, o) ∈ A → W.heap[b]? = some o) : ∀ b o, BE A b = some o → W.heap[b]? = some o := fun b o a => by
 unfold BE at a
 cases d : A.find? (fun p => p.1 == b) with
 | none => rw [d] at a; cases a
 | some p =>
  rw [d] at a
  cases a
  have h1 := List.mem_of_find?_eq_some d
  have g := List.find?_some d
  simp at g
  subst g
  exact h _ _ h1
theorem At.of {M : jN} {b : Nat} {cs : Array Value} {T : TypeId} {fr : Nat × Nat} (h : M b = some (.cells cs T fr)) (ys : List Value) (d : cs.toList = ys) : At M (.pointer (some ⟨b, 0, none⟩)) ys :=
 ⟨b, 0, cs, T, fr, rfl, h, fun j y a => by subst d; simpa using a⟩
section
variable {F : Nat → Prop} {w W W' : World} {μ μ' : jN} {L L0 L1 L2 : List (Nat × Obj)}
theorem ST.Hl (h : ST dd F w W μ L) (a : L.Perm (L0 ++ L2)) : ∀ b o, (b, o) ∈ L2 → pB W L0 b = some o := fun b o d => by
 have h1 := (h.perm a).at_ (dt _ d)
 unfold pB
 rw [aY (Ew (h.perm a).nd d)]
 exact h1
theorem ST.held (h : ST dd F w W μ L) (a : L.Perm (L0 ++ L2)) : zz L0 W := fun b o d => ((h.perm a).box b o (cD _ d)).1
theorem ST.Lt (h : ST dd F w W μ L) (a : L.Perm (L0 ++ L2)) : (L0.map (·.1)).Nodup := by
 have := (h.perm a).nd
 rw [cE] at this
 exact (bT.1 this).1
theorem ST.Jx (h : ST dd F w W μ L) (a : L.Perm (L0 ++ L2)) : jR μ (pB W L0) := (h.perm a).lf (fun _ hp => cD _ hp)
end
section
variable {P : Program} {E : Nat → Value} {W : World} {d : Option Nat} {ty : TypeId} {pos : String} {af : Array Edge} {g : Option (Nat × Bool)}
 {F : Nat → Prop} {w : World} {μ : jN} {L : List (Nat × Obj)}
theorem Ez {K : Value → World → Prop} {K' : Value → List (Nat × Obj) → World → Prop} {f : FuncId} {fv : Operand} {ax : Array Operand} {ats : Array TypeId} {caps : Array Value} {args : List Value} (L0 L2 : List (Nat × Obj)) (a : ST dd F w W μ L) (i : L.Perm (L0 ++ L2)) (n : jz E fv = .func (.func f) #[] caps) (he : ∀ args w, (callFunc f args).run P w = .ok (.enter f args) w) (ha : ax.map (jz E) ++ (#[] : Array Value) = args.toArray) (m : zz L0 W → (L0.map (·.1)).Nodup → jR μ (pB W L0) → (∀ b o, (b, o) ∈ L2 → pB W L0 b = some o) → kA dd P f (args ++ caps.toList) W L0 K') (h : ∀ W' v μ' L1, ST dd F w W' μ' (L1 ++ L2) → jR μ μ' → Lo F w μ μ' → (∀ b, W.heap.size ≤ b → ∀ o, pB W' L1 b = some o → μ' b = some o) → K' v L1 W' → K v W') : mL P E ⟨d, .call ⟨.value fv, ax, ats⟩, ty, pos, af, g⟩ W K := by
 have j : ax.map (jz E) = args.toArray := by simpa using ha
 refine Ev (args := (args ++ caps.toList).toArray) n he (by rw [j]; simp) (cT (m (a.held i) (a.Lt i) (a.Jx i) (a.Hl i)) (fun _ W' ⟨v, L1, h1, k, l⟩ => ⟨v, h1, h W' v _ L1 ((a.perm i).back k) ((a.perm i).AV W' L1) ((a.perm i).CS W' L1) ?_ l⟩))
 intro b q o p
 unfold Bd
 rw [aY (by omega)]
 exact p
theorem Sl.lift {α : Type} {enc : α → List Value} {k : Nat} {M μ' : jN} {B : Nat} {v : Value} {l : List α} (h : Sl (Pl enc) k M v l) (p : Fr B v) (n : ∀ b, B ≤ b → ∀ o, M b = some o → μ' b = some o) : Sl (Pl enc) k μ' v l := by
 obtain ⟨A, c, h1, d, g, i⟩ := h
 refine ⟨A, c, h1, d, g, fun q => ?_⟩
 obtain ⟨b, off, cs, T, fr, a, j, m⟩ := i q
 exact ⟨b, off, cs, T, fr, a, n b (p b (by rw [h1, a]; rfl)) _ j, m⟩
theorem Fc {t : TypeId} (dd : Nat) {s u : Array TypeId} {b : Bool} (d : P.underlying t = some (.func s u b)) (f : Fn) (a c : Array Value) (W : World) : (Op.equalIn (dd + 1) t (.func f a c) .nilFunc).run P W = .ok false W := by
 simp [Op.equalIn, aV d]
end
def yX {κ β : Type} (beq : κ → κ → Bool) (l : List (κ × β)) (k : κ) (z : β) : β := (kJ beq l k).getD z
section
variable {P : Program} {W : World} {κ β : Type} {kt : TypeId} {kenc : κ → Value} {beq : κ → κ → Bool} {vf : β → Value} {E : Nat → Value} {d : Option Nat} {ty : TypeId} {pos : String} {af : Array Edge} {g : Option (Nat × Bool)} {F : Nat → Prop} {w : World} {μ : jN} {L R : List (Nat × Obj)} {v : Value} {left : List (κ × β)}
theorem zc {t e : TypeId} {m x : Operand} {a : Value} {l : List (κ × β)} {k : κ} {z : β} (K : pg P kt kenc beq) (i : P.underlying t = some (.map kt e)) (n : ∀ w, (zeroValue e).run P w = .ok (vf z) w) (hm : jz E m = a) (j : jz E x = kenc k) (b : uj kenc vf (hp W) a l) :
  lD P E ⟨d, .lookup t m x false, ty, pos, af, g⟩ W (vf (yX beq l k z)) W := by
 have := IH (d := d) (ty := ty) (pos := pos) (af := af) (g := g) K i n hm j b
 rw [yX]
 cases h : kJ beq l k with
 | none => rw [h] at this; exact this
 | some y => rw [h] at this; exact this
theorem kZ.one {a : Value} {l : List (κ × β)} (h : kZ kenc vf a l R) : a.oneCell' = true := by obtain ⟨m, es, clock, rfl, _⟩ := h; rfl
theorem kZ.form {a : Value} {l : List (κ × β)} (h : kZ kenc vf a l R) : ∃ m, a = .map (some m) := by obtain ⟨m, es, clock, rfl, _⟩ := h; exact ⟨m, rfl⟩
theorem kZ.nd {a : Value} {l : List (κ × β)} (h : kZ kenc vf a l R) : (R.map (·.1)).Nodup := by obtain ⟨m, es, clock, rfl, rfl, _⟩ := h; simp
end
def oq {α : Type} (l : List α) (i : Nat) (z : α) : List α := l.take i ++ List.replicate (l.length - i) z
theorem vd {α : Type} (l : List α) (i : Nat) (z : α) (h : i ≤ l.length) : (oq l i z).length = l.length := by simp [oq]; omega
theorem E6 {α : Type} (l : List α) (i : Nat) (z : α) (h : i ≤ l.length) : (oq l i z).take i = l.take i := by
 simp only [oq]
 rw [fe, dB (by simp; omega)]
 simp; omega
end Go.Proofs.YtjjjihkifgdhgaaGreat
namespace Go.Proofs.YtjjjihkifgdhgaaGreat
open Go.RowKit
theorem HW {P : Program} {cs : Array Value} {b : Bool} {n : Nat} {W : World} : ∀ (l : List Field),
  (∀ f ∈ l, f.name ≠ "_" → ∃ v, (part f.type cs f.offset).run P W = .ok v W ∧ (Instr.checkKey b n f.type v).run P W = .ok () W) →
  ((forIn l PUnit.unit fun f (_ : PUnit) => do
   if f.name ≠ "_" then Instr.checkKey b n f.type (← part f.type cs f.offset)
   pure (ForInStep.yield PUnit.unit)) : Sem PUnit).run P W = .ok PUnit.unit W
 | [], _ => by simp
 | f :: l, h => by
  have ih := HW l (fun f g => h f (dm _ g))
  simp only [List.forIn_cons, bY]
  by_cases a : f.name ≠ "_"
  ·obtain ⟨v, h1, d⟩ := h f (by simp) a
   simp only [aZ a, bY, h1, bK, d, cX]
   exact ih
  ·simp only [aY a, bY, cX, bK]
   exact ih
theorem Gs {P : Program} {kt : TypeId} {fs : Array Field} {l : List Field} {cs : Array Value} {b : Bool} {n : Nat} {W : World} (d : P.underlying kt = some (.struct fs)) (a : fs.toList = l) (h : ∀ f ∈ l, f.name ≠ "_" → ∃ v, (part f.type cs f.offset).run P W = .ok v W ∧ (Instr.checkKey b n f.type v).run P W = .ok () W) : (Instr.checkKey b (n + 1) kt (.agg cs)).run P W = .ok () W := by
 obtain ⟨fs⟩ := fs
 subst a
 simp only [Instr.checkKey, bY, aV d, bK, List.forIn_toArray]
 have := HW (P := P) (cs := cs) (b := b) (n := n) (W := W) fs h
 simp only [bY] at this
 first | rw [this]; rfl | simpa using this
variable {dd : Bool}
def qR (b : Bool) : Option Unit := if b = true then some () else none
theorem IK {b : Bool} {u : Unit} (h : qR b = some u) : b = true := by
 unfold qR at h; split at h
 ·assumption
 ·cases h
theorem vI {a c : Int} {u : Unit} (h : qR (decide (0 ≤ a) && decide (a ≤ c)) = some u) : 0 ≤ a := by have := IK h; simp at this; exact this.1
theorem vw {a c : Int} {u : Unit} (h : qR (decide (0 ≤ a) && decide (a ≤ c)) = some u) : a ≤ c := by have := IK h; simp at this; exact this.2
def zY (k : Nat) (v : Value) (i : Nat) (u : Value) : Prop := ∃ A n c A' a, v = .slice A n c ∧ u = .slice A' (n - i) a ∧ i ≤ n ∧ (i < n → ∃ b o, A = some ⟨b, o, none⟩ ∧ A' = some ⟨b, o + i * k, none⟩)
section
variable {P : Program} {E : Nat → Value} {W : World} {d : Option Nat} {ty : TypeId} {pos : String} {af : Array Edge} {g : Option (Nat × Bool)}
 {F : Nat → Prop} {w : World} {μ : jN} {L : List (Nat × Obj)} {α : Type} {e' : TypeId} {enc : α → List Value} {k : Nat} {v : Value} {l : List α} {R : List (Nat × Obj)}
theorem yS {t e : TypeId} {x a : Operand} {z : IntKind} {i : Int} (n : P.underlying t = some (.slice e)) (he : ∀ w, (sizeOf e).run P w = .ok k w) (p : jz E x = v) (j : jz E a = .int z i) (h : jM e' enc k v l R) (r : 0 ≤ i) (m : i ≤ l.length) :
  ∃ u, zY k v i.toNat u ∧ ∀ W, lD P E ⟨d, .slice t x (some a) none none, ty, pos, af, g⟩ W u W := by
 rcases h with ⟨rfl, rfl, rfl⟩ | ⟨b, cap, q, rfl, rfl, h1, G, I, J⟩
 ·have : i = 0 := by simp at m; omega
  subst this
  refine ⟨.slice none 0 0, ⟨none, 0, 0, none, 0, rfl, rfl, aU _, fun h => absurd h (by simp)⟩, fun W => ?_⟩
  show (do pure (.value (← Instr.sliceAt t (jz E x) (some (jz E a)) none none)) : Sem Next).run P W = _
  rw [p, j]
  simp [Instr.sliceAt, Instr.slice, Instr.sliceBounds, Instr.sliceBound, asIntOf, aV n, he W]
 ·refine ⟨.slice (some (if cap = i.toNat then ⟨b, 0, none⟩ else (Addr.add ⟨b, 0, none⟩ (i.toNat * k)))) (l.length - i.toNat) (cap - i.toNat), ⟨_, _, _, _, _, rfl, rfl, by omega, fun y => ⟨b, 0, rfl, ?_⟩⟩, fun W => ?_⟩
  ·rw [aY (by omega)]; simp [dA]
  ·show (do pure (.value (← Instr.sliceAt t (jz E x) (some (jz E a)) none none)) : Sem Next).run P W = _
   rw [p, j]
   have s : 0 ≤ i ∧ i ≤ (l.length : Int) := ⟨r, m⟩
   simp [Instr.sliceAt, Instr.slice, Instr.sliceBounds, Instr.sliceBound, asIntOf, aV n, he W, s]
   split <;> rfl
theorem AI {i j : Nat} {x0 : α} (h : (l.drop i)[j]? = some x0) : l[i + j]? = some x0 := by rwa [dJ] at h
theorem HC {t e : TypeId} {x : Operand} {u : Value} {i : Nat} (j : P.underlying t = some (.slice e)) (m : jz E x = u) (hu : zY k v i u) (h : jM e' enc k v l R) : lD P E ⟨d, .call ⟨.builtin .len, #[x], #[t]⟩, ty, pos, af, g⟩ W (.int .i64 ((l.length - i : Nat) : Int)) W := by
 obtain ⟨A, n, c, A', p, h1, b, r, _⟩ := hu
 subst b
 have : n = l.length := by
  rcases h with ⟨rfl, rfl, rfl⟩ | ⟨q, cap, a, rfl, rfl, _⟩
  ·cases h1; rfl
  ·cases h1; rfl
 subst this
 exact yM j m
theorem za {t e : TypeId} {x m : Operand} {Q : IntKind} {i : Int} {x0 : α} {u : Value} {o : Nat} (M : P.underlying t = some (.slice e)) (he : ∀ w, (sizeOf e).run P w = .ok k w) (O : jz E x = u) (J : jz E m = .int Q i) (h : jM e' enc k v l R) (hu : zY k v o u) (z : 0 ≤ i) (L : (l.drop o)[i.toNat]? = some x0) :
  ∃ p, Al R k p (o + i.toNat) ∧ ∀ W, lD P E ⟨d, .indexAddr t x m, ty, pos, af, g⟩ W p W := by
 have a := AI L
 have j : o + i.toNat < l.length := (bJ.1 a).1
 rcases h with ⟨rfl, rfl, rfl⟩ | ⟨y, cap, q, rfl, rfl, h1, U, Y, Z⟩
 ·simp at j
 obtain ⟨A, n, c, A', T, r, rfl, h7, G⟩ := hu
 cases r
 obtain ⟨b, oo, s, rfl⟩ := G (by omega)
 cases s
 refine ⟨.pointer (some ⟨y, (o + i.toNat) * k, none⟩), ⟨_, _, rfl, rfl⟩, fun W => ?_⟩
 show (do pure (.value (← Instr.indexAt t (jz E x) (jz E m))) : Sem Next).run P W = _
 rw [O, J]
 have I : 0 ≤ i ∧ i < ((l.length - o : Nat) : Int) := ⟨z, by omega⟩
 simp [Instr.indexAt, asIntOf, aV M, he W, I, dA, cL]
theorem BO (ys : List Value) (m : Nat) : (Builtin.zeroCells ys.toArray m).toList = (List.replicate m ys).flatten := by
 unfold Builtin.zeroCells
 simp only [Array.toList_map, Array.toList_range, dx]
 rcases ee ys.length with a | a
 ·have : ys = [] := dT.1 a
  subst this
  simp
 apply et
 intro q
 by_cases d : q < m * ys.length
 ·have h1 : q / ys.length < m := (gD a).2 d
  have b : q % ys.length < ys.length := Nat.mod_lt _ a
  have := vV (enc := fun _ : Unit => ys) (fun _ => rfl) (List.replicate m ()) (q / ys.length) () (by simp [h1]) (q % ys.length) ys[q % ys.length] (by simp [b])
  rw [Nat.div_add_mod' q ys.length] at this
  rw [ir] at this
  rw [this]
  simp [d, b]
 ·rw [eP (by simp; omega), eP (by simp; omega)]
theorem J1 {K : Value → World → Prop} (z : α) (X : List (Nat × Obj)) {Y : List (Nat × Obj)} {t e : TypeId} {x : Operand} {u Z : Value} {i : Nat} (p : ST dd F w W μ (X ++ (R ++ Y))) (h : jM e' enc k v l R) (hk : ∀ x, (enc x).length = k) (h1 : ∀ x, ∀ u ∈ enc x, u.oneCell' = true) (O : P.underlying t = some (.slice e)) (hz : ∀ w, (zeroValue e).run P w = .ok Z w) (hu : zY k v i u) (hc : Z.cells = (enc z).toArray) (hx : jz E x = u) (L : ∀ W' R', ST dd F w W' μ (X ++ (R' ++ Y)) → jM e' enc k v (oq l i z) R' → K (.tuple #[]) W') : mL P E ⟨d, .call ⟨.builtin .clear, #[x], #[t]⟩, ty, pos, af, g⟩ W K := by
 have j : ∀ (W' : World), (Builtin.clear_ #[t] ty #[u]).run P W = .ok (.tuple #[]) W' → (execOp (jz E) ⟨d, .call ⟨.builtin .clear, #[x], #[t]⟩, ty, pos, af, g⟩).run P W = .ok (.value (.tuple #[])) W' := by
  intro W' hV
  show (do let d ← resolve (jz E) ⟨.builtin .clear, #[x], #[t]⟩ ty; invoke d.target d.args : Sem Next).run P W = _
  simp [resolve, invoke, builtin, hx, hV]
 obtain ⟨A, n, c, A', c', e1, rfl, y, h8⟩ := hu
 rcases h with ⟨rfl, rfl, rfl⟩ | ⟨r, cap, a, rfl, rfl, U, q2, I, q4⟩
 ·cases e1
  refine .inl ⟨_, W, j W ?_, L W [] p (by simpa [oq] using jM.nil e' enc k)⟩
  simp only [Builtin.clear_, Nat.zero_sub]
  cases A' <;> simp [aV O]
 ·cases e1
  by_cases hi : i < l.length
  ·obtain ⟨b, o, e2, rfl⟩ := h8 hi
   cases e2
   have T : ∀ m, (Builtin.zeroCells Z.cells m).toList = (List.replicate m (enc z)).flatten := by
    intro m
    rw [hc]; exact BO _ _
   have hb := (p.box r (.cells a e' (0, 0)) (by simp)).1
   have hle : i * k + (l.length - i) * k = l.length * k := by rw [← cL]; congr 1; omega
   have hlen : l.length * k ≤ c * k := cM _ U
   have q : ((List.replicate (l.length - i) (enc z)).flatten).length = (l.length - i) * k := by simp [hk]
   have s : ∀ v ∈ (List.replicate (l.length - i) (enc z)).flatten, v.oneCell' = true := by
    intro v G
    obtain ⟨ys, Q, G⟩ := iO.1 G
    rw [(List.mem_replicate.1 Q).2] at G
    exact h1 z v G
   have hs := iB (P := P) r (i * k) e' ((List.replicate (l.length - i) (enc z)).flatten) 0 a W hb (by rw [q, I]; omega) s
   rw [fN, q, hle] at hs
   refine .inl ⟨_, W.setRow r (a.toList.take (i * k) ++ (List.replicate (l.length - i) (enc z)).flatten ++ a.toList.drop (l.length * k)).toArray, j _ ?_, L _ [(r, .cells (a.toList.take (i * k) ++ (List.replicate (l.length - i) (enc z)).flatten ++ a.toList.drop (l.length * k)).toArray e' (0, 0))] (p.store _) (.inr ⟨r, c, _, by rw [vd _ _ _ y], rfl, by rw [vd _ _ _ y]; exact U, q2, ?_, ?_⟩)⟩
   ·have hn : l.length - i = (l.length - i - 1) + 1 := by omega
    simp only [Builtin.clear_]
    rw [hn]
    simp only [aV O, bY, bK, fE, gl, hz, dX]
    rw [← hn, T, hs]
    simp
   ·have J : a.toList.length = c * k := by simpa using I
    rw [dx, aD, aD, dv, gG, q, J, dC (by omega)]
    omega
   ·rw [vd _ _ _ y, oq, cE, cN, DW hk l i y, ← q4, gu, dC (by omega), ir]
    have J : a.toList.length = c * k := by simpa using I
    have e3 : (a.toList.take (i * k) ++ (List.replicate (l.length - i) (enc z)).flatten).length = l.length * k := by rw [aD, dv, q, J, dC (by omega)]; omega
    show List.take (l.length * k) (a.toList.take (i * k) ++ (List.replicate (l.length - i) (enc z)).flatten ++ a.toList.drop (l.length * k)) = _
    rw [fe, dB (by rw [e3]; exact aU _), e3, Nat.sub_self]
    simp
  ·have M : i = l.length := by omega
   subst M
   refine .inl ⟨_, W, j W ?_, L W _ p ?_⟩
   ·simp only [Builtin.clear_, Nat.sub_self]
    cases A' <;> simp [aV O]
   ·simp only [oq, List.take_length, Nat.sub_self, List.replicate_zero, bI]
    exact .inr ⟨r, c, a, rfl, rfl, U, q2, I, q4⟩
end
end Go.Proofs.YtjjjihkifgdhgaaGreat
namespace Go.Proofs.YtjjjihkifgdhgaaGreat
open Go.RowKit
variable {dd : Bool}
section
variable {P : Program} {E : Nat → Value} {W : World} {d : Option Nat} {ty : TypeId} {pos : String} {af : Array Edge} {g : Option (Nat × Bool)}
 {F : Nat → Prop} {w : World} {μ : jN} {L : List (Nat × Obj)}
theorem LB {K : Value → World → Prop} {f : FuncId} {fv : Operand} {ax : Array Operand} {ats : Array TypeId} {args : List Value} {v : Value} (b : jz E fv = .func (.func f) #[] #[]) (ha : ax.map (jz E) ++ (#[] : Array Value) = args.toArray) (i : (callFunc f args.toArray).run P W = .ok (.value v) W) (h : K v W) : mL P E ⟨d, .call ⟨.value fv, ax, ats⟩, ty, pos, af, g⟩ W K := by
 have a : ax.map (jz E) = args.toArray := by simpa using ha
 refine .inl ⟨v, W, ?_, h⟩
 show (do let d ← resolve (jz E) ⟨.value fv, ax, ats⟩ ty; invoke d.target d.args : Sem Next).run P W = _
 simp only [resolve, b, Deferred.ofValue, bY, cX, bK, invoke]
 rw [a]
 simpa using i
def wz (s : ByteArray) (c : Int) : Int := Lib.indexByte s.data.toList c.toNat.toUInt8
def oP (a b : ByteArray) : Int := Lib.compareBytes a.data.toList b.data.toList
def tu (l : List Int) : List UInt8 := l.map fun x => x.toNat.toUInt8
def xu (a b : List Int) : Int := Lib.compareBytes (tu a) (tu b)
theorem GS {f : FuncId} {fn : Func} (d : P.funcs[f]? = some fn) (a : (fn.name == "runtime.NumGoroutine") = false) (b : fn.body.isNone = true) (g : Extern.findNext fn = none) (he : Extern.find fn = some Extern.BytealgIndexByte.indexByte) (s : ByteArray) (c : Int) (w : World) :
  (callFunc f [Value.string s, .int .u8 c].toArray).run P w = .ok (.value (.int .i64 (wz s c))) w := by
 rw [gT d a b g he]
 rw [Lib.run_indexByteString]
 rfl
theorem NE {f : FuncId} {fn : Func} (h : P.funcs[f]? = some fn) (d : (fn.name == "runtime.NumGoroutine") = false) (g : fn.body.isNone = true) (i : Extern.findNext fn = none) (he : Extern.find fn = some Extern.BytealgCompare.compare) (a b : ByteArray) (w : World) :
  (callFunc f [Value.string a, .string b].toArray).run P w = .ok (.value (.int .i64 (oP a b))) w := by
 rw [gT h d g i he]
 rw [Lib.run_compareString]
 rfl
theorem Dq {v : Value} {l : List Int} (h : Sl (Pl (kP .u8)) 1 (hp W) v l) : (Extern.Bytes.bytesOf v).run P W = .ok ⟨(tu l).toArray⟩ W := by
 obtain ⟨A, c, rfl, p, q, i⟩ := h
 rcases ee l.length with a | a
 ·have : l = [] := dT.1 a
  subst this
  cases A <;> simp [Extern.Bytes.bytesOf, Extern.Bytes.loadBytes, tu] <;> rfl
 ·obtain ⟨b, off, cs, T, fr, rfl, k, m⟩ := i a
  have := Lib.run_loadBytesX (P := P) W l ⟨b, off, none⟩ .empty (fun j x n => by
   obtain ⟨ys, _, g, d⟩ := m j x n
   cases g
   rw [dA, gk W b (off + j) cs T fr k]
   have := d 0 (.int .u8 x) rfl
   simpa using this)
  simp only [Extern.Bytes.bytesOf]
  rw [this]
  congr 1
  apply iI
  show (#[] : Array UInt8) ++ _ = _
  simp [Lib.bytesOf, tu]
theorem Ou {f : FuncId} {fn : Func} (k : P.funcs[f]? = some fn) (d : (fn.name == "runtime.NumGoroutine") = false) (j : fn.body.isNone = true) (l : Extern.findNext fn = none) (he : Extern.find fn = some Extern.BytealgCompare.compare) {g h : Value} {a b : List Int} (h1 : Sl (Pl (kP .u8)) 1 (hp W) g a) (i : Sl (Pl (kP .u8)) 1 (hp W) h b) :
  (callFunc f [g, h].toArray).run P W = .ok (.value (.int .i64 (xu a b))) W := by
 rw [gT k d j l he]
 have : (Extern.BytealgCompare.compare [g, h].toArray).run P W = .ok (.int .i64 (xu a b)) W := by
  change Sem.run P (do pure (goInt (Extern.BytealgCompare.cmp (← Extern.Bytes.bytesOf g) (← Extern.Bytes.bytesOf h)))) W = _
  simp only [bY, Dq h1, Dq i, cX, Result.andThen]
  rw [Lib.cmp_eq]
  rfl
 rw [this]
 rfl
theorem pG {fn : Fn} {caps : Array Operand} {cs : List Value} {v : Value} (a : caps.map (jz E) ++ (#[] : Array Value) = cs.toArray) (b : .func fn #[] cs.toArray = v) : lD P E ⟨d, .makeFunc fn #[] caps, ty, pos, af, g⟩ W v W := by
 have : caps.map (jz E) = cs.toArray := by simpa using a
 exact Ln (by rw [this]; simpa using b)
theorem kA.mono {f : FuncId} {args : List Value} {L0 : List (Nat × Obj)} {K K' : Value → List (Nat × Obj) → World → Prop} (h : kA dd P f args w L0 K) (hk : ∀ v L1 W', K v L1 W' → K' v L1 W') : kA dd P f args w L0 K' :=
 cT h (fun _ _ ⟨v, L1, h1, a, b⟩ => ⟨v, L1, h1, a, hk _ _ _ b⟩)
end
section
variable {α : Type}
def tM (cf : α × α → Option Int) (x y : α) : Bool := match cf (x, y) with
 | some c => decide (c < 0)
 | none => false
structure DV (cf : α × α → Option Int) (l : List α) : Prop where
 is : ∀ x ∈ l, ∀ y ∈ l, ∃ c, cf (x, y) = some c
 irrefl : ∀ x ∈ l, tM cf x x = false
 trans : ∀ x ∈ l, ∀ y ∈ l, ∀ z ∈ l, tM cf x y = true → tM cf y z = true → tM cf x z = true
 total : ∀ x ∈ l, ∀ y ∈ l, tM cf x y = false → tM cf y x = false → x = y
 short : l.length < 4611686018427387904
def sM (cf : α × α → Option Int) (l : List α) : List α := l.mergeSort fun x y => !tM cf y x
open Classical in
noncomputable def yW (cf : α × α → Option Int) (l : List α) : Option (List α) := if DV cf l then some (sM cf l) else none
theorem GH {cf : α × α → Option Int} {l r : List α} (h : yW cf l = some r) : DV cf l ∧ r = sM cf l := by
 unfold yW at h
 split at h
 ·rename_i a; cases h; exact ⟨a, rfl⟩
 ·cases h
theorem OI {cf : α × α → Option Int} {l : List α} (h : DV cf l) : yW cf l = some (sM cf l) := by
 unfold yW; rw [aZ h]
def uz (l : List ByteArray) : List ByteArray := l.mergeSort fun x y => !pN y x
end
end Go.Proofs.YtjjjihkifgdhgaaGreat
namespace Go.Proofs.YtjjjihkifgdhgaaGreat
open Go.RowKit
theorem Cv {P : Program} {t e : TypeId} {n k : Nat} {z cs : Array Value} {qs : Array (Nat × Value)} (g : ∀ w, (zeroValue t).run P w = .ok (.agg z) w) (d : P.underlying t = some (.array n e)) (b : ∀ w, (sizeOf e).run P w = .ok k w) (a : Instr.fill (fun i => some (i * k, k)) z qs.toList = some cs) (W : World) : (Instr.build t qs).run P W = .ok (.agg cs) W := by
 simp only [Instr.build, bY, g W, bK, aV d, Value.cells, b W]
 simp only [a, cX]
theorem JY {P : Program} {W : World} (d : Nat) (e : TypeId) (c : Nat) (xs ys : Array Value) : (Op.eqItems d e c xs ys []).run P W = .ok true W := by simp [Op.eqItems]
theorem Eb {P : Program} {W : World} {d : Nat} {e : TypeId} {c : Nat} {xs ys : Array Value} {i : Nat} {is : List Nat} {a b : Value} {r s : Bool} (ha : (part e xs (i * c)).run P W = .ok a W) (g : (part e ys (i * c)).run P W = .ok b W) (he : (Op.equalIn d e a b).run P W = .ok r W) (h : (Op.eqItems d e c xs ys is).run P W = .ok s W) : (Op.eqItems d e c xs ys (i :: is)).run P W = .ok (r && s) W := by
 simp only [Op.eqItems, bY, ha, g, he, bK]
 cases r <;> simp [h]
theorem Li {P : Program} {W : World} {d : Nat} {t e : TypeId} {n c : Nat} {i : TypeInfo} {xs ys : Array Value} {r : Bool} (hu : P.underlying t = some (.array n e)) (b : P.info? e = some i) (a : P.cellsOf e = c) (h : (Op.eqItems d e c xs ys (List.range n)).run P W = .ok r W) : (Op.equalIn (d + 1) t (.agg xs) (.agg ys)).run P W = .ok r W := by
 rw [run_equalIn_array W d xs ys hu b, a, h]
variable {dd : Bool}
def uF {κ γ : Type} (Q : Value → γ → List (Nat × Obj) → Prop) : List (κ × Value) → List (κ × γ) → List (Nat × Obj) → Prop
 | [], [], R => R = []
 | p :: a, q :: l, R => p.1 = q.1 ∧ ∃ R1 R2, R = R1 ++ R2 ∧ Q p.2 q.2 R1 ∧ uF Q a l R2
 | _, _, _ => False
def mu {κ γ : Type} (kenc : κ → Value) (Q : Value → γ → List (Nat × Obj) → Prop) (v : Value) (d : List (κ × Value)) (l : List (κ × γ)) (R : List (Nat × Obj)) : Prop :=
 ∃ a b, R = a ++ b ∧ kZ kenc (fun x => x) v d a ∧ uF Q d l b
section
variable {κ γ : Type} {Q : Value → γ → List (Nat × Obj) → Prop} {beq : κ → κ → Bool} {kenc : κ → Value}
theorem uF.keys : ∀ {a : List (κ × Value)} {l : List (κ × γ)} {R : List (Nat × Obj)}, uF Q a l R → a.map (·.1) = l.map (·.1)
 | [], [], _, _ => rfl
 | [], _ :: _, _, h => h.elim
 | _ :: _, [], _, h => h.elim
 | p :: a, q :: l, R, h => by
  obtain ⟨h1, R1, R2, _, _, b⟩ := h
  simp [h1, uF.keys b]
theorem uF.find {a : List (κ × Value)} {l : List (κ × γ)} {R : List (Nat × Obj)} (h : uF Q a l R) (k : κ) : a.findIdx? (fun p => beq k p.1) = l.findIdx? (fun p => beq k p.1) := by
 have h1 : (a.map (·.1)).findIdx? (fun x => beq k x) = (l.map (·.1)).findIdx? (fun x => beq k x) := by rw [h.keys]
 rw [gv, gv] at h1
 exact h1
theorem uF.get : ∀ {b : List (κ × Value)} {l : List (κ × γ)} {R : List (Nat × Obj)}, uF Q b l R → ∀ (i : Nat) (k : κ) (x : γ), l[i]? = some (k, x) →
  ∃ v A R1 B, b[i]? = some (k, v) ∧ R = A ++ (R1 ++ B) ∧ Q v x R1 ∧ ∀ k2 v2 x2 R2, Q v2 x2 R2 → uF Q (b.set i (k2, v2)) (l.set i (k2, x2)) (A ++ (R2 ++ B))
 | [], [], _, _, i, k, x, a => by simp at a
 | [], _ :: _, _, h, _, _, _, _ => h.elim
 | _ :: _, [], _, h, _, _, _, _ => h.elim
 | p :: b, q :: l, R, h, 0, k, x, a => by
  obtain ⟨h1, R1, R2, rfl, d, g⟩ := h
  simp at a
  subst a
  refine ⟨p.2, [], R1, R2, by simp only [gl]; exact bN some (Prod.ext h1 rfl), rfl, d, fun k2 v2 x2 R2' j => ⟨rfl, R2', R2, rfl, j, g⟩⟩
 | p :: b, q :: l, R, h, i + 1, k, x, a => by
  obtain ⟨h1, R1, R2, rfl, d, g⟩ := h
  simp at a
  obtain ⟨v, A, R1', B, g1, rfl, g3, g4⟩ := uF.get g i k x a
  exact ⟨v, R1 ++ A, R1', B, by simpa using g1, by simp, g3, fun k2 v2 x2 R2' j => ⟨h1, R1, A ++ (R2' ++ B), by simp, d, g4 k2 v2 x2 R2' j⟩⟩
theorem uF.push : ∀ {b : List (κ × Value)} {l : List (κ × γ)} {R : List (Nat × Obj)}, uF Q b l R → ∀ (k : κ) {v : Value} {x : γ} {R1 : List (Nat × Obj)}, Q v x R1 → uF Q (b ++ [(k, v)]) (l ++ [(k, x)]) (R ++ R1)
 | [], [], _, h, k, v, x, R1, a => by
  have g : _ = [] := h
  subst g
  exact ⟨rfl, R1, [], by simp, a, rfl⟩
 | [], _ :: _, _, h, _, _, _, _, _ => h.elim
 | _ :: _, [], _, h, _, _, _, _, _ => h.elim
 | p :: b, q :: l, R, h, k, v, x, R1, a => by
  obtain ⟨h1, Ra, d, rfl, i, j⟩ := h
  exact ⟨h1, Ra, d ++ R1, by simp, i, uF.push j k a⟩
theorem mu.found {t : Value} {d : List (κ × Value)} {l : List (κ × γ)} {R : List (Nat × Obj)} (hk : ∀ {x y : κ}, beq x y = true → x = y) (h : mu kenc Q t d l R) {k : κ} {x : γ} (b : kJ beq l k = some x) :
  ∃ v A R1 B, kJ beq d k = some v ∧ R = A ++ (R1 ++ B) ∧ Q v x R1 ∧ (∀ x2 R2, Q v x2 R2 → mu kenc Q t d (nL beq l k x2) (A ++ (R2 ++ B))) := by
 obtain ⟨r, E, rfl, u, s⟩ := h
 rw [xj] at b
 cases g : l.findIdx? (fun p => beq k p.1) with
 | none => rw [g] at b; cases b
 | some i =>
  rw [g] at b
  obtain ⟨p, hp, w⟩ := rz g
  simp only [aA, hp, dD, gw] at b
  subst b
  have q := hk w
  obtain ⟨v, A, R1, B, g1, rfl, g3, g4⟩ := s.get i p.1 p.2 hp
  have m : d.findIdx? (fun p => beq k p.1) = some i := by rw [s.find k, g]
  refine ⟨v, r ++ A, R1, B, by rw [xj, m]; simp [g1], by simp, g3, fun x2 R2 z => ⟨r, A ++ (R2 ++ B), by simp, u, ?_⟩⟩
  have a := g4 k v x2 R2 z
  have e : d.set i (k, v) = d := by
   apply et
   intro j
   rw [eT]
   split
   ·rename_i n
    subst n
    rw [g1, q]
    simp [(bJ.1 g1).1]
   ·rfl
  rw [e] at a
  rw [nL, g]
  exact a
theorem mu.Ly {j : Value} {d : List (κ × Value)} {l : List (κ × γ)} {R : List (Nat × Obj)} (h : mu kenc Q j d l R) {k : κ} (a : kJ beq l k = none) : kJ beq d k = none := by
 obtain ⟨m, n, rfl, q, g⟩ := h
 rw [xj] at a ⊢
 rw [g.find k]
 cases b : l.findIdx? (fun p => beq k p.1) with
 | none => rfl
 | some i =>
  rw [b] at a
  obtain ⟨p, hp, r⟩ := rz b
  simp [hp] at a
def qL (beq : κ → κ → Bool) (a : List (κ × Value)) (k : κ) (z : Value) : Value := (kJ beq a k).getD z
variable {P : Program} {W : World} {kt : TypeId} {E : Nat → Value} {d : Option Nat} {ty : TypeId} {pos : String} {af : Array Edge} {g : Option (Nat × Bool)} {F : Nat → Prop} {w : World} {μ : jN} {L : List (Nat × Obj)}
theorem oM {t e : TypeId} {m x : Operand} {i z : Value} {a : List (κ × Value)} {l : List (κ × γ)} {R : List (Nat × Obj)} {k : κ} (K : pg P kt kenc beq) (r : P.underlying t = some (.map kt e)) (u : ∀ w, (zeroValue e).run P w = .ok z w) (hm : jz E m = i) (s : jz E x = kenc k) (p : mu kenc Q i a l R) (q : ∀ b o, (b, o) ∈ R → W.heap[b]? = some o) : lD P E ⟨d, .lookup t m x false, ty, pos, af, g⟩ W (qL beq a k z) W := by
 obtain ⟨v, y, rfl, j, G⟩ := p
 have n := IH (d := d) (ty := ty) (pos := pos) (af := af) (g := g) K r u hm s (j.at (μ := hp W) (fun b o h => q b o (cD _ h)))
 simpa [qL] using n
variable {κ2 β : Type} {kenc2 : κ2 → Value} {vf : β → Value} {beq2 : κ2 → κ2 → Bool} {kt2 : TypeId}
theorem mu.CN {j : Value} {d : List (κ × Value)} {l : List (κ × List (κ2 × β))} {R : List (Nat × Obj)} (hk : ∀ {x y : κ}, beq x y = true → x = y) (h : mu kenc (kZ kenc2 vf) j d l R) (k : κ) {μ : jN} (g : ∀ b o, (b, o) ∈ R → μ b = some o) :
  uj kenc2 vf μ (qL beq d k (.map none)) ((kJ beq l k).getD []) := by
 cases a : kJ beq l k with
 | none => rw [qL, h.Ly a]; exact .inl ⟨rfl, rfl⟩
 | some x =>
  obtain ⟨v, A, R1, B, g1, rfl, g3, _⟩ := h.found hk a
  rw [qL, g1]
  exact g3.at (fun b o i => g b o (by simp [i]))
theorem mu.isNil {d : Value} {b : List (κ × Value)} {l : List (κ × List (κ2 × β))} {R : List (Nat × Obj)} (hk : ∀ {x y : κ}, beq x y = true → x = y) (h : mu kenc (kZ kenc2 vf) d b l R) (k : κ) :
  ∃ r, qL beq b k (.map none) = .map r ∧ r.isNone = (kJ beq l k).isNone := by
 cases a : kJ beq l k with
 | none => rw [qL, h.Ly a]; exact ⟨none, rfl, rfl⟩
 | some x =>
  obtain ⟨v, A, R1, B, g1, rfl, g3, _⟩ := h.found hk a
  obtain ⟨m, es, clock, rfl, _⟩ := g3
  rw [qL, g1]
  exact ⟨_, rfl, rfl⟩
def Fj {κ κ2 β : Type} (beq : κ → κ → Bool) (beq2 : κ2 → κ2 → Bool) (l : List (κ × List (κ2 × β))) (k : κ) (k2 : κ2) (x : β) : Option (List (κ × List (κ2 × β))) := (kJ beq l k).map fun a => nL beq l k (nL beq2 a k2 x)
def FD {κ γ : Type} (beq : κ → κ → Bool) (l : List (κ × γ)) (k : κ) (x : γ) : Option (List (κ × γ)) := if (kJ beq l k).isNone then some (nL beq l k x) else none
theorem Nu {q : Value → World → Prop} (X : List (Nat × Obj)) {Y R : List (Nat × Obj)} {t e : TypeId} {m x y : Operand} {s : Value} {p : List (κ × Value)} {l r : List (κ × List (κ2 × β))} {k : κ} {k2 : κ2} {v : β} (hk : ∀ {x y : κ}, beq x y = true → x = y) (K : pg P kt2 kenc2 beq2) (I : P.underlying t = some (.map kt2 e)) (i : ST dd F w W μ (X ++ (R ++ Y))) (h : mu kenc (kZ kenc2 vf) s p l R) (hm : jz E m = qL beq p k (.map none)) (J : jz E x = kenc2 k2) (L : jz E y = vf v) (b : Fj beq beq2 l k k2 v = some r) (G : ∀ W' R', ST dd F w W' μ (X ++ (R' ++ Y)) → mu kenc (kZ kenc2 vf) s p r R' → q undef W') : mL P E ⟨d, .mapUpdate t m x y, ty, pos, af, g⟩ W q := by
 unfold Fj at b
 cases j : kJ beq l k with
 | none => rw [j] at b; cases b
 | some M =>
  rw [j] at b
  cases b
  obtain ⟨u, A, R1, B, g1, rfl, g3, g4⟩ := h.found hk j
  have n : jz E m = u := by rw [hm, qL, g1]; rfl
  have a : ST dd F w W μ ((X ++ A) ++ (R1 ++ (B ++ Y))) := by simpa using i
  refine Bz (X ++ A) K I a g3 n J L (fun W' R' h1 z => G W' (A ++ (R' ++ B)) ?_ (g4 _ _ z))
  simpa using h1
theorem Mx {I : Value → World → Prop} (X : List (Nat × Obj)) {Y R R2 : List (Nat × Obj)} {t e : TypeId} {m x y : Operand} {G : Value} {v : List (κ × Value)} {l M : List (κ × γ)} {k : κ} {u : Value} {z : γ} (K : pg P kt kenc beq) (ht : P.underlying t = some (.map kt e)) (s : ST dd F w W μ (X ++ (R ++ (R2 ++ Y)))) (h : mu kenc Q G v l R) (hm : jz E m = G) (hx : jz E x = kenc k) (hy : jz E y = u) (hq : Q u z R2) (b : FD beq l k z = some M) (hK : ∀ W' R', ST dd F w W' μ (X ++ (R' ++ Y)) → mu kenc Q G (nL beq v k u) M R' → I undef W') : mL P E ⟨d, .mapUpdate t m x y, ty, pos, af, g⟩ W I := by
 unfold FD at b
 cases n : kJ beq l k with
 | some l2 => rw [n] at b; cases b
 | none =>
  rw [n] at b
  simp only [Option.isNone_none, aM, gw] at b
  subst b
  have hn := h.Ly n
  obtain ⟨T, r, rfl, U, Z⟩ := h
  have j : ST dd F w W μ (X ++ (T ++ (r ++ (R2 ++ Y)))) := by simpa using s
  refine Bz X K ht j U hm hx hy (fun W' R' g1 g2 => hK W' (R' ++ (r ++ R2)) (by simpa using g1) ⟨R', r ++ R2, rfl, g2, ?_⟩)
  have J : ∀ {O : Type} (q : List (κ × O)) (y : O), kJ beq q k = none → nL beq q k y = q ++ [(k, y)] := fun q y a => by
   rw [xj] at a
   rw [nL]
   cases L : q.findIdx? (fun p => beq k p.1) with
   | none => rfl
   | some i =>
    obtain ⟨p, hp, _⟩ := rz L
    rw [L] at a
    simp [hp] at a
  rw [J v u hn, J l z n]
  exact Z.push k hq
end
end Go.Proofs.YtjjjihkifgdhgaaGreat
namespace Go.Proofs.YtjjjihkifgdhgaaGreat
open Go.RowKit
variable {dd : Bool}
section
variable {κ γ : Type} {Q : Value → γ → List (Nat × Obj) → Prop} {beq : κ → κ → Bool} {kenc : κ → Value}
theorem qv {a : Type} {l : List (κ × a)} {k : κ} {i : Nat} (h : l.findIdx? (fun p => beq k p.1) = some i) (x : a) : nL beq l k x = l.set i (k, x) := by rw [nL, h]
theorem uH {a : Type} {l : List (κ × a)} {k : κ} (h : l.findIdx? (fun p => beq k p.1) = none) (x : a) : nL beq l k x = l ++ [(k, x)] := by rw [nL, h]
theorem DO {a : Type} {l : List (κ × a)} {k : κ} (h : l.findIdx? (fun p => beq k p.1) = none) : kJ beq l k = none := by rw [xj, h]; rfl
theorem CM {a : Type} {l : List (κ × a)} {k : κ} {i : Nat} {p : κ × a} (h : l.findIdx? (fun p => beq k p.1) = some i) (hp : l[i]? = some p) : kJ beq l k = some p.2 := by rw [xj, h]; simp [hp]
def LU (beq : κ → κ → Bool) (kenc : κ → Value) (Q : Value → γ → List (Nat × Obj) → Prop) (d : Value) (b : List (κ × Value)) (l : List (κ × γ)) (k : κ) (R : List (Nat × Obj)) : Prop :=
 ∃ a A B, R = a ++ (A ++ B) ∧ kZ kenc (fun x => x) d b a ∧ ∀ v x R1, Q v x R1 → uF Q (nL beq b k v) (nL beq l k x) (A ++ (R1 ++ B))
theorem mu.open (hk : ∀ {x y : κ}, beq x y = true → x = y) {s z : Value} {x0 : γ} (m : Q z x0 []) {n : List (κ × Value)} {l : List (κ × γ)} {R : List (Nat × Obj)} (h : mu kenc Q s n l R) (k : κ) :
  ∃ R' R1, R.Perm (R' ++ R1) ∧ Q (qL beq n k z) ((kJ beq l k).getD x0) R1 ∧ LU beq kenc Q s n l k R' := by
 obtain ⟨d, q, rfl, r, g⟩ := h
 have b := g.find (beq := beq) k
 cases a : l.findIdx? (fun p => beq k p.1) with
 | none =>
  rw [a] at b
  refine ⟨d ++ q, [], by simp, ?_, d, q, [], by simp, r, fun v x R1 j => ?_⟩
  ·rw [qL, DO a, DO b]; exact m
  ·rw [uH a, uH b]; simpa using g.push k j
 | some i =>
  rw [a] at b
  obtain ⟨p, hp, t⟩ := rz a
  have u := hk t
  obtain ⟨v, A, R1, B, g1, rfl, g3, g4⟩ := g.get i p.1 p.2 hp
  refine ⟨d ++ (A ++ B), R1, ?_, ?_, d, A, B, rfl, r, fun v2 x2 R2 j => ?_⟩
  ·rw [aG, aG]
   refine cA _ (cA _ eQ)
  ·rw [qL, CM a hp, CM b g1]; exact g3
  ·rw [qv a, qv b]; exact g4 k v2 x2 R2 j
variable {P : Program} {W : World} {kt : TypeId} {E : Nat → Value} {d : Option Nat} {ty : TypeId} {pos : String} {af : Array Edge} {g : Option (Nat × Bool)} {F : Nat → Prop} {w : World} {μ : jN} {L : List (Nat × Obj)}
theorem Rt {j : Value → World → Prop} (X : List (Nat × Obj)) {Y R R1 : List (Nat × Obj)} {t e : TypeId} {m x y : Operand} {i : Value} {n : List (κ × Value)} {l : List (κ × γ)} {k : κ} {u : Value} {z : γ} (K : pg P kt kenc beq) (G : P.underlying t = some (.map kt e)) (b : ST dd F w W μ (X ++ (R ++ (R1 ++ Y)))) (h : LU beq kenc Q i n l k R) (hm : jz E m = i) (I : jz E x = kenc k) (J : jz E y = u) (v : Q u z R1) (s : ∀ W' R', ST dd F w W' μ (X ++ (R' ++ Y)) → mu kenc Q i (nL beq n k u) (nL beq l k z) R' → j undef W') : mL P E ⟨d, .mapUpdate t m x y, ty, pos, af, g⟩ W j := by
 obtain ⟨p, A, B, rfl, q, r⟩ := h
 have a : ST dd F w W μ (X ++ (p ++ (A ++ (B ++ (R1 ++ Y))))) := by simpa using b
 refine Bz X K G a q hm I J (fun W' R' g1 g2 => s W' (R' ++ (A ++ (R1 ++ B))) ?_ ⟨R', A ++ (R1 ++ B), rfl, g2, r u z R1 v⟩)
 refine g1.perm ?_
 simp only [aG]
 refine cA _ (cA _ (cA _ ?_))
 rw [← aG, ← aG]
 exact gx _ eQ
def Ir (beq : κ → κ → Bool) (kenc : κ → Value) (Q : Value → γ → List (Nat × Obj) → Prop) (b : Value) (l : List (κ × γ)) (k : κ) (st : Nat) (R : List (Nat × Obj)) : Prop :=
 ∃ m es clock a A B i e, b = .map (some m) ∧ R = (m, .map es clock) :: (A ++ B) ∧ uh kenc (fun x => x) a es clock ∧ es[i]? = some e ∧ e.born = st ∧ a.findIdx? (fun p => beq k p.1) = some i ∧
  ∀ v x R1, Q v x R1 → uF Q (nL beq a k v) (nL beq l k x) (A ++ (R1 ++ B))
theorem Hv {h : Type} (hk : ∀ x : κ, beq x x = true) (g : List (κ × h)) (k : κ) (a b : h) : nL beq (nL beq g k a) k b = nL beq g k b := by
 cases d : g.findIdx? (fun p => beq k p.1) with
 | none =>
  have h1 : (g ++ [(k, a)]).findIdx? (fun p => beq k p.1) = some g.length := by
   rw [gM, d]
   simp [eK, hk]
  rw [uH d, uH d, qv h1]
  simp
 | some i =>
  obtain ⟨p, hp, q⟩ := rz d
  have h1 : (g.set i (k, a)).findIdx? (fun p => beq k p.1) = some i := by
   rw [dW] at d ⊢
   obtain ⟨h1, n, l⟩ := d
   refine ⟨by simpa using h1, by simp [hk], fun j m => ?_⟩
   rw [List.getElem_set_ne (by omega)]
   exact l j m
  rw [qv d, qv d, qv h1]
  simp
end
end Go.Proofs.YtjjjihkifgdhgaaGreat
namespace Go.Proofs.YtjjjihkifgdhgaaGreat
open Go.RowKit
variable {dd : Bool}
section
variable {κ γ : Type} {Q : Value → γ → List (Nat × Obj) → Prop} {beq : κ → κ → Bool} {kenc : κ → Value}
variable {P : Program} {W : World} {kt : TypeId} {E : Nat → Value} {d : Option Nat} {ty : TypeId} {pos : String} {af : Array Edge} {g : Option (Nat × Bool)} {F : Nat → Prop} {w : World} {μ : jN} {L : List (Nat × Obj)}
theorem DR {es : Array MapEntry} {i : Nat} {f b : MapEntry → MapEntry} (h : ∀ e, es[i]? = some e → f e = b e) : es.modify i f = es.modify i b := by
 apply Array.ext_getElem?
 intro j
 rw [dO, dO]
 split
 ·rename_i a
  subst a
  cases he : es[i]? with
  | none => rfl
  | some e => simp [h e he]
 ·rfl
theorem uh.val {b : List (κ × Value)} {es : Array MapEntry} {clock : Nat} (h : uh kenc (fun x => x) b es clock) {i : Nat} {e : MapEntry} (he : es[i]? = some e) : ∃ p, b[i]? = some p ∧ e.key = kenc p.1 ∧ e.val = p.2 := by
 have a := bN (fun q => q[i]?) h.CY
 simp only [eU, dF, he, dD] at a
 cases hp : b[i]? with
 | none => rw [hp] at a; cases a
 | some p =>
  rw [hp] at a
  simp only [dD, gw, iJ] at a
  exact ⟨p, rfl, a.1, a.2⟩
theorem LF {Kk : Value → World → Prop} (X : List (Nat × Obj)) {Y R : List (Nat × Obj)} {t e : TypeId} {m x : Operand} {mv z : Value} {x0 : γ} {lv : List (κ × Value)} {l : List (κ × γ)} {k : κ} (hk : ∀ {x y : κ}, beq x y = true ↔ x = y) (K : pg P kt kenc beq) (ht : P.underlying t = some (.map kt e)) (hz : ∀ w, (zeroValue e).run P w = .ok z w) (ae : Q z x0 []) (U : ST dd F w W μ (X ++ (R ++ Y))) (h : mu kenc Q mv lv l R) (hm : jz E m = mv) (hx : jz E x = kenc k) (hK : ∀ W' v st R' R1, ST dd F w W' μ (X ++ (R' ++ (R1 ++ Y))) → Q v ((kJ beq l k).getD x0) R1 → Ir beq kenc Q mv l k st R' → Kk (.tuple #[v, .int .i64 (st : Nat)]) W') : mL P E ⟨d, .mapEntry t m x, ty, pos, af, g⟩ W Kk := by
 obtain ⟨Rm, Rv, rfl, ⟨r, es, clock, rfl, rfl, s⟩, T⟩ := h
 have hb : W.heap[r]? = some (.map es clock) := (U.box r (.map es clock) (by simp)).1
 have h5 : (getObj r : Sem Obj).run P W = .ok (.map es clock) W := by simp [getObj, Sem.run, hb]
 have M := K.find k _ _ s.keys W
 rw [s.get k] at M
 have I := T.find (beq := beq) k
 have G : ∀ W' v, (Instr.mapEntry t (.map (some r)) (kenc k)).run P W = .ok v W' → (execOp (jz E) ⟨d, .mapEntry t m x, ty, pos, af, g⟩).run P W = .ok (.value v) W' := by
  intro W' v hr
  show (do pure (.value (← Instr.mapEntry t (jz E m) (jz E x))) : Sem Next).run P W = _
  rw [hm, hx]
  simp [hr]
 have u : ST dd F w W μ (X ++ (r, .map es clock) :: (Rv ++ Y)) := by simpa using U
 cases b : lv.findIdx? (fun p => beq k p.1) with
 | none =>
  rw [b] at M I
  have a := s.put (beq := beq) k z
  rw [b] at a
  refine .inl ⟨_, ChangeMaps.setBlock W r (.map (es.push { key := kenc k, val := z, born := clock }) (clock + 1)), G _ (.tuple #[z, .int .i64 (clock : Nat)]) ?_, hK _ z clock ((r, .map (es.push { key := kenc k, val := z, born := clock }) (clock + 1)) :: (Rv ++ [])) [] ?_ ?_ ?_⟩
  ·simp [Instr.mapEntry, aV ht, h5, K.check, M, xJ hb, hz _, goInt]
  ·have := u.setBlock (.map (es.push { key := kenc k, val := z, born := clock }) (clock + 1))
   simpa using this
  ·rw [DO I.symm]; exact ae
  ·refine ⟨r, _, _, lv ++ [(k, z)], Rv, [], es.size, { key := kenc k, val := z, born := clock }, rfl, rfl, a, by simp, rfl, ?_, fun v x R1 hq => ?_⟩
   ·rw [gM, b]
    have ab := s.length
    simp [eK, hk, ab]
   ·rw [← uH b, Hv (fun x => hk.2 rfl), uH b, uH I.symm]
    simpa using T.push k hq
 | some i =>
  rw [b] at M I
  obtain ⟨p, hp, ad⟩ := rz b
  obtain ⟨q, aa, Z⟩ := rz I.symm
  have ah := hk.1 Z
  obtain ⟨v, A, R1, B, g1, rfl, g3, g4⟩ := T.get i q.1 q.2 aa
  have a8 : p.2 = v := by rw [g1] at hp; cases hp; rfl
  have ab := s.length
  have ag : i < lv.length := (bJ.1 hp).1
  obtain ⟨O, n⟩ : ∃ O, es[i]? = some O := ⟨es[i], Array.getElem?_eq_getElem (by omega)⟩
  obtain ⟨p', a7, J, L⟩ := s.val n
  rw [hp] at a7
  cases a7
  simp only [aA, hp, dD] at M
  have a := s.put (beq := beq) k v
  rw [b] at a
  have a1 : ((es[i]?).map (·.key)).getD (kenc k) = kenc k := by
   rw [n]
   simp only [dD, gH, J]
   exact K.eq k p.1 ad
  have a6 : es.modify i (fun e => { e with key := kenc k }) = es.modify i (fun e => { e with key := kenc k, val := v }) := DR fun e he => by
   rw [n] at he; cases he
   rw [← a8, ← L]
  refine .inl ⟨_, ChangeMaps.setBlock W r (.map (es.modify i fun e => { e with key := kenc k, val := v }) clock), G _ (.tuple #[v, .int .i64 (O.born : Nat)]) ?_, hK _ v O.born ((r, .map (es.modify i fun e => { e with key := kenc k, val := v }) clock) :: (A ++ B)) R1 ?_ ?_ ?_⟩
  ·simp only [Instr.mapEntry, bY, aV ht, h5, K.check, M, bK, a1, Instr.keyThatStays, K.bits, aM, cX]
   rw [xJ hb, a6]
   simp [n, goInt, a8]
  ·have := u.setBlock (.map (es.modify i fun e => { e with key := kenc k, val := v }) clock)
   refine this.perm ?_
   simp only [aG, bA]
   refine cA _ (List.Perm.cons _ (cA _ ?_))
   rw [← aG, ← aG]
   exact gx _ eQ
  ·rw [CM I.symm aa]; exact g3
  ·refine ⟨r, _, _, lv.set i (k, v), A, B, i, { O with key := kenc k, val := v }, rfl, rfl, a, ?_, rfl, ?_, fun v2 x2 R2 hq => ?_⟩
   ·rw [dO, aZ rfl, n]; rfl
   ·rw [dW] at b ⊢
    obtain ⟨h1, s, T⟩ := b
    refine ⟨by simpa using h1, by simp [hk], fun j hj => ?_⟩
    rw [List.getElem_set_ne (by omega)]
    exact T j hj
   ·rw [← qv b, Hv (fun x => hk.2 rfl), qv b, qv I.symm]
    exact g4 k v2 x2 R2 hq
theorem M1 {es : Array MapEntry} (h : es.toList.Pairwise (fun a b => a.born < b.born)) {i : Nat} {e : MapEntry} (he : es[i]? = some e) : es.findIdx? (fun a => (a.born : Int) == (e.born : Int)) = some i := by
 rw [Array.findIdx?_eq_some_iff_getElem]
 obtain ⟨g, d⟩ := du.1 he
 refine ⟨g, by rw [d]; simp, fun j k => ?_⟩
 have := List.pairwise_iff_getElem.1 h j i (by simpa using Nat.lt_trans k g) (by simpa using g) k
 simp only [Array.getElem_toList] at this
 rw [d] at this
 simp
 omega
theorem JI {Kk : Value → World → Prop} (X : List (Nat × Obj)) {Y R R1 : List (Nat × Obj)} {t e : TypeId} {m s y : Operand} {mv u : Value} {z : γ} {l : List (κ × γ)} {k : κ} {st : Nat} (hk : ∀ {x y : κ}, beq x y = true ↔ x = y) (K : pg P kt kenc beq) (r : ST dd F w W μ (X ++ (R ++ (R1 ++ Y)))) (h : Ir beq kenc Q mv l k st R) (hm : jz E m = mv) (hs : jz E s = .int .i64 (st : Nat)) (hy : jz E y = u) (hq : Q u z R1) (hK : ∀ W' Z R', ST dd F w W' μ (X ++ (R' ++ Y)) → mu kenc Q mv Z (nL beq l k z) R' → Kk undef W') : mL P E ⟨d, .entryStore t m s y, ty, pos, af, g⟩ W Kk := by
 obtain ⟨b, es, clock, lv, A, B, i, en, rfl, rfl, M, n, j, T, h3⟩ := h
 have hb : W.heap[b]? = some (.map es clock) := (r.box b (.map es clock) (by simp)).1
 have h5 : (getObj b : Sem Obj).run P W = .ok (.map es clock) W := by simp [getObj, Sem.run, hb]
 obtain ⟨p, hp, O⟩ := rz T
 obtain ⟨p', L, q, U⟩ := M.val n
 rw [hp] at L
 cases L
 have a := M.put (beq := beq) k u
 rw [T] at a
 have J : es.modify i (fun e => { e with val := u }) = es.modify i (fun e => { e with key := kenc k, val := u }) := DR fun e he => by
  rw [n] at he; cases he
  have G : en.key = kenc k := by rw [q]; exact K.eq k p.1 O
  rw [← G]
 have I := M1 M.born n
 rw [j] at I
 have v : ST dd F w W μ (X ++ (b, .map es clock) :: (A ++ (B ++ (R1 ++ Y)))) := by simpa using r
 refine .inr (.inl ⟨ChangeMaps.setBlock W b (.map (es.modify i fun e => { e with key := kenc k, val := u }) clock), ?_, hK _ (nL beq lv k u) ((b, .map (es.modify i fun e => { e with key := kenc k, val := u }) clock) :: (A ++ (R1 ++ B))) ?_ ⟨[(b, .map (es.modify i fun e => { e with key := kenc k, val := u }) clock)], A ++ (R1 ++ B), rfl, ⟨b, _, _, rfl, rfl, ?_⟩, h3 u z R1 hq⟩⟩)
 ·show (do Instr.entryStore t (jz E m) (jz E s) (jz E y); pure .skip : Sem Next).run P W = _
  rw [hm, hs, hy]
  simp only [Instr.entryStore, bY, h5, bK, asInt, asIntOf, cX, I]
  rw [xJ hb, J]
  rfl
 ·have := v.setBlock (.map (es.modify i fun e => { e with key := kenc k, val := u }) clock)
  refine this.perm ?_
  simp only [aG, bA]
  refine cA _ (List.Perm.cons _ (cA _ ?_))
  rw [← aG, ← aG]
  exact gx _ eQ
 ·rw [qv T]; exact a
end
end Go.Proofs.YtjjjihkifgdhgaaGreat
namespace Go.Proofs.YtjjjihkifgdhgaaGreat
open Go.RowKit
variable {dd : Bool}
section
variable {κ γ : Type} {Q : Value → γ → List (Nat × Obj) → Prop} {beq : κ → κ → Bool} {kenc : κ → Value}
def lm (kenc : κ → Value) (Q : Value → γ → List (Nat × Obj) → Prop) (v : Value) (l : List (κ × γ)) (R : List (Nat × Obj)) : Prop := ∃ a, mu kenc Q v a l R
def ou (kenc : κ → Value) (Q : Value → γ → List (Nat × Obj) → Prop) (μ : jN) (v : Value) (l : List (κ × γ)) : Prop := ∃ a R, mu kenc Q v a l R ∧ ∀ b o, (b, o) ∈ R → μ b = some o
theorem lm.at {v : Value} {l : List (κ × γ)} {R : List (Nat × Obj)} {μ : jN} (h : lm kenc Q v l R) (a : ∀ b o, (b, o) ∈ R → μ b = some o) : ou kenc Q μ v l := let ⟨d, h⟩ := h; ⟨d, R, h, a⟩
theorem ou.mono {v : Value} {l : List (κ × γ)} {μ μ' : jN} (h : ou kenc Q μ v l) (g : jR μ μ') : ou kenc Q μ' v l := let ⟨i, R, h, a⟩ := h; ⟨i, R, h, fun b o d => g _ _ (a b o d)⟩
theorem mu.form {v : Value} {a : List (κ × Value)} {l : List (κ × γ)} {R : List (Nat × Obj)} (h : mu kenc Q v a l R) : ∃ m, v = .map (some m) := let ⟨_, _, _, h, _⟩ := h; h.form
theorem mu.e {v : Value} {a : List (κ × Value)} {l : List (κ × γ)} {R : List (Nat × Obj)} (h : mu kenc Q v a l R) : lm kenc Q v l R := ⟨a, h⟩
theorem lm.form {v : Value} {l : List (κ × γ)} {R : List (Nat × Obj)} (h : lm kenc Q v l R) : ∃ m, v = .map (some m) := let ⟨_, h⟩ := h; h.form
theorem lm.new {v : Value} {R : List (Nat × Obj)} (h : kZ (β := Value) kenc (fun x => x) v [] R) : lm kenc Q v [] R := ⟨[], R, [], (bI R).symm, h, rfl⟩
theorem mu.rowAt {α : Type} {e : TypeId} {enc : α → List Value} {n : Nat} {i : Value} {d : List (κ × Value)} {l : List (κ × List α)} {R : List (Nat × Obj)} (hk : ∀ {x y : κ}, beq x y = true → x = y) (h : mu kenc (jM e enc n) i d l R) (k : κ) :
  ∃ R1, jM e enc n (qL beq d k (.slice none 0 0)) ((kJ beq l k).getD []) R1 ∧ ∀ b o, (b, o) ∈ R1 → (b, o) ∈ R := by
 cases a : kJ beq l k with
 | none => refine ⟨[], ?_, fun b o h => by cases h⟩; rw [qL, h.Ly a]; exact .inl ⟨rfl, rfl, rfl⟩
 | some x =>
  obtain ⟨v, A, R1, B, g1, rfl, g3, _⟩ := h.found hk a
  refine ⟨R1, ?_, fun b o g => by simp [g]⟩
  rw [qL, g1]; exact g3
theorem jM.BV {α : Type} {e : TypeId} {enc : α → List Value} {k : Nat} {v : Value} {l : List α} {R : List (Nat × Obj)} (h : jM e enc k v l R) (hk : ∀ x, (enc x).length = k) : Sl (Pl enc) k (BE R) v l := by
 refine h.sl hk (fun b o a => ?_)
 rcases h with ⟨rfl, rfl, rfl⟩ | ⟨g, cap, d, rfl, rfl, _⟩
 ·cases a
 ·simp at a; obtain ⟨rfl, rfl⟩ := a; simp [BE]
end
theorem nA.hp (W : World) : nA (hp W) [] W := ⟨fun _ _ h => h, fun _ _ h => by cases h⟩
section
variable {P : Program} {W : World} {E : Nat → Value} {d : Option Nat} {ty : TypeId} {pos : String} {af : Array Edge} {g : Option (Nat × Bool)} {F : Nat → Prop} {w : World} {μ : jN} {L : List (Nat × Obj)}
theorem GJ {t k e : TypeId} (dd : Nat) (b : P.underlying t = some (.map k e)) (a : Option Nat) (W : World) : (Op.equalIn (dd + 1) t (.map a) (.map none)).run P W = .ok a.isNone W := by
 cases a <;> simp [Op.equalIn, aV b]
theorem LY {a n k e : TypeId} {x y : Operand} {r : Option Nat} {b : Bool} (j : P.underlying a = some (.map k e)) (l : jz E x = .map r) (m : jz E y = .map none) (i : r.isNone = b) :
  lD P E ⟨d, .binOp .eql a x y n, ty, pos, af, g⟩ W (.bool b) W := by
 subst i
 show (do let r ← (do eqGuard .eql a x y (jz E x) (jz E y); binOp .eql a (jz E x) (jz E y)); pure (.value r) : Sem Next).run P W = _
 rw [l, m]
 have h := GJ 9999 j r W
 simp [eqGuard, binOp, Op.equal, show Op.maxDepth = 9999 + 1 from rfl, h]
theorem JV {κ κ2 β : Type} {kenc : κ → Value} {kenc2 : κ2 → Value} {vf : β → Value} {beq : κ → κ → Bool} {b q kt e : TypeId} {x y : Operand} {p : Value} {a : List (κ × Value)} {l : List (κ × List (κ2 × β))} {R : List (Nat × Obj)} {k : κ} (hk : ∀ {x y : κ}, beq x y = true → x = y) (j : P.underlying b = some (.map kt e)) (h : mu kenc (kZ kenc2 vf) p a l R) (m : jz E x = qL beq a k (.map none)) (n : jz E y = .map none) :
  lD P E ⟨d, .binOp .eql b x y q, ty, pos, af, g⟩ W (.bool (kJ beq l k).isNone) W := by
 obtain ⟨r, h1, i⟩ := h.isNil hk k
 exact LY j (m.trans h1) n i
theorem Cm {κ γ : Type} {b : Value → World → Prop} {t : TypeId} (kenc : κ → Value) (Q : Value → γ → List (Nat × Obj) → Prop) (a : ST dd F w W μ L) (i : ∀ W' v R, ST dd F w W' μ (R ++ L) → lm kenc Q v [] R → b v W') : mL P E ⟨d, .makeMap t none, ty, pos, af, g⟩ W b :=
 HA kenc (fun x : Value => x) a (fun W' v R h1 h => i W' v R h1 (lm.new h))
end
def pq {α : Type} (e : TypeId) (enc : α → List Value) (k : Nat) (v : Value) (l : List α) (R : List (Nat × Obj)) : Prop :=
 (v = .slice none 0 0 ∧ l = [] ∧ R = []) ∨
 ∃ g off cap a, v = .slice (some ⟨g, off, none⟩) l.length cap ∧ R = [(g, .cells a e (0, 0))] ∧ l.length ≤ cap ∧ cap ≤ maxLen ∧ off + cap * k ≤ a.size ∧ (a.toList.drop off).take (l.length * k) = (l.map enc).flatten
section
variable {α : Type} {e : TypeId} {enc : α → List Value} {k : Nat} {v : Value} {l : List α} {R : List (Nat × Obj)}
theorem pq.nil (e : TypeId) (enc : α → List Value) (k : Nat) : pq e enc k (.slice none 0 0) [] [] := .inl ⟨rfl, rfl, rfl⟩
theorem jM.SG (h : jM e enc k v l R) : pq e enc k v l R := by
 rcases h with h | ⟨g, cap, a, h1, b, d, i, m, j⟩
 ·exact .inl h
 ·exact .inr ⟨g, 0, cap, a, h1, b, d, i, by omega, by simpa using j⟩
theorem pq.len (h : pq e enc k v l R) : l.length ≤ 9223372036854775807 := by
 rcases h with ⟨rfl, rfl, rfl⟩ | ⟨g, off, cap, a, rfl, rfl, h1, b, _⟩
 ·simp
 ·unfold maxLen at b; omega
theorem pq.form (h : pq e enc k v l R) : ∃ A c, v = .slice A l.length c := by
 rcases h with ⟨rfl, rfl, rfl⟩ | ⟨g, off, cap, a, rfl, rfl, _⟩
 ·exact ⟨_, _, rfl⟩
 ·exact ⟨_, _, rfl⟩
theorem pq.BV (h : pq e enc k v l R) (hk : ∀ x, (enc x).length = k) : Sl (Pl enc) k (BE R) v l := by
 rcases h with ⟨rfl, rfl, rfl⟩ | ⟨g, off, cap, a, rfl, rfl, h1, d, q, m⟩
 ·exact Sl.nil _ _ _
 ·refine ⟨_, cap, rfl, h1, d, fun _ => ⟨g, off, a, e, (0, 0), rfl, by simp [BE], fun i x n => ⟨enc x, hk x, rfl, fun j y p => ?_⟩⟩⟩
  have := vV hk l i x n j y p
  rw [← m] at this
  have b : i * k + j < l.length * k := by
   have := (bJ.1 this).1
   simp at this; omega
  rw [dP b, dJ] at this
  simpa [ek] using this
variable {P : Program} {W : World} {E : Nat → Value} {d : Option Nat} {ty : TypeId} {pos : String} {af : Array Edge} {g : Option (Nat × Bool)} {F : Nat → Prop} {w : World} {μ : jN} {L : List (Nat × Obj)}
theorem OJ {x : Operand} {t a : TypeId} (b : P.underlying t = some (.slice a)) (i : jz E x = v) (h : pq e enc k v l R) : lD P E ⟨d, .call ⟨.builtin .len, #[x], #[t]⟩, ty, pos, af, g⟩ W (.int .i64 l.length) W := by
 obtain ⟨A, c, rfl⟩ := h.form
 exact yM b i
theorem Lv {t q : TypeId} {x n : Operand} {Q : IntKind} {i : Int} (z : P.underlying t = some (.slice q)) (he : ∀ w, (sizeOf q).run P w = .ok k w) (G : jz E x = v) (s : jz E n = .int Q i) (hk : ∀ x, (enc x).length = k) (h : pq e enc k v l R) (I : 0 ≤ i) (y : i ≤ l.length) :
  ∃ u, pq e enc k u (l.drop i.toNat) R ∧ ∀ W, lD P E ⟨d, .slice t x (some n) none none, ty, pos, af, g⟩ W u W := by
 rcases h with ⟨rfl, rfl, rfl⟩ | ⟨m, off, cap, b, rfl, rfl, h1, T, U, J⟩
 ·have : i = 0 := by simp at y; omega
  subst this
  refine ⟨.slice none 0 0, by simpa using pq.nil e enc k, fun W => ?_⟩
  show (do pure (.value (← Instr.sliceAt t (jz E x) (some (jz E n)) none none)) : Sem Next).run P W = _
  rw [G, s]
  simp [Instr.sliceAt, Instr.slice, Instr.sliceBounds, Instr.sliceBound, asIntOf, aV z, he W]
 ·refine ⟨.slice (some (if cap = i.toNat then ⟨m, off, none⟩ else (Addr.add ⟨m, off, none⟩ (i.toNat * k)))) (l.length - i.toNat) (cap - i.toNat), .inr ?_, fun W => ?_⟩
  ·have a : (l.drop i.toNat).length = l.length - i.toNat := by simp
   have j : (l.map enc).flatten.drop (i.toNat * k) = ((l.drop i.toNat).map enc).flatten := by
    have L : l = l.take i.toNat ++ l.drop i.toNat := (gE _ _).symm
    have M : ((l.take i.toNat).map enc).flatten.length = i.toNat * k := by rw [pJ hk, dv, dC (by omega)]
    conv => lhs; rw [L, cE, cN]
    rw [← M, List.drop_left]
   by_cases r : cap = i.toNat
   ·rw [aZ r]
    have p : l.drop i.toNat = [] := List.drop_eq_nil_of_le (by omega)
    refine ⟨m, off, cap - i.toNat, b, by rw [p]; simp; omega, rfl, by rw [p]; simp, by omega, by have : (cap - i.toNat) * k ≤ cap * k := cM _ (by omega); omega, by rw [p]; simp⟩
   ·rw [aY r]
    refine ⟨m, off + i.toNat * k, cap - i.toNat, b, by rw [a, dA], rfl, by rw [a]; omega, by omega, ?_, ?_⟩
    ·have : i.toNat * k + (cap - i.toNat) * k = cap * k := by rw [← cL]; congr 1; omega
     omega
    ·rw [a, ← j, ← J, iq, List.drop_drop, Nat.sub_mul]
  ·show (do pure (.value (← Instr.sliceAt t (jz E x) (some (jz E n)) none none)) : Sem Next).run P W = _
   rw [G, s]
   have O : 0 ≤ i ∧ i ≤ (l.length : Int) := ⟨I, y⟩
   simp [Instr.sliceAt, Instr.slice, Instr.sliceBounds, Instr.sliceBound, asIntOf, aV z, he W, O]
   split <;> rfl
theorem JX {K : Value → World → Prop} {t : TypeId} {a6 : Nat} {z vs : Value} {m r : List α} (X : List (Nat × Obj)) {Y : List (Nat × Obj)} {x y : Operand} {i : TypeInfo} (a7 : ST dd F w W μ (X ++ (R ++ Y))) (hk : ∀ x, (enc x).length = k) (ak : 0 < k) (h1 : ∀ x, ∀ u ∈ enc x, u.oneCell' = true) (ht : P.underlying t = some (.slice e)) (hi : P.info? e = some i) (hz : i.zero = some z) (ab : z.cells.size = k) (a1 : i.size = k) (a8 : i.bytes = a6) (hx : jz E x = v) (hy : jz E y = vs) (hR : pq e enc k v l R) (hs : Sl (Pl enc) k (hp W) vs m) (hb : lP a6 l m = some r) (h : ∀ W' v' R', ST dd F w W' μ (X ++ (R' ++ Y)) → pq e enc k v' r R' → K v' W') : mL P E ⟨d, .call ⟨.builtin .append, #[x, y], #[t, t]⟩, ty, pos, af, g⟩ W K := by
 rcases hR with ⟨rfl, rfl, rfl⟩ | ⟨s, off, cap, p, rfl, rfl, h2, h3, h4, h5⟩
 ·exact IW X a7 hk ak h1 ht hi hz ab a1 a8 hx hy (jM.nil e enc k) hs hb (fun W' v' R' a b => h W' v' R' a b.SG)
 unfold lP at hb
 split at hb
 case isFalse => cases hb
 rename_i Z
 cases hb
 have U : ∀ (V : Value) (W' : World), (Builtin.append_ #[t, t] ty #[.slice (some ⟨s, off, none⟩) l.length cap, vs]).run P W = .ok V W' → (execOp (jz E) ⟨d, .call ⟨.builtin .append, #[x, y], #[t, t]⟩, ty, pos, af, g⟩).run P W = .ok (.value V) W' := by
  intro V W' hV
  show (do let d ← resolve (jz E) ⟨.builtin .append, #[x, y], #[t, t]⟩ ty; invoke d.target d.args : Sem Next).run P W = _
  simp [resolve, invoke, builtin, hx, hy, hV]
 obtain ⟨A, c, rfl, ao, ap, ah⟩ := hs
 have L : ST dd F w W μ (X ++ (s, .cells p e (0, 0)) :: Y) := by simpa using a7
 have hg : W.heap[s]? = some (.cells p e (0, 0)) := (L.box s _ (by simp)).1
 have J := pJ hk l
 have Q : ∀ u ∈ (m.map enc).flatten, u.oneCell' = true := by
  intro u hu
  obtain ⟨ys, an, al⟩ := iO.1 hu
  obtain ⟨x, _, rfl⟩ := bF.1 an
  exact h1 x u al
 have I : Src P i.size t (.slice A m.length c) m.length ((m.map enc).flatten) W := by
  rw [a1]
  rcases ee m.length with h0 | h0
  ·have hm : m = [] := aR h0
   subst hm
   cases A with
   | none => exact Src.ofNil W ht c
   | some ad => exact Src.ofSlice W ht ad 0 c [] (by simp) (fun j u hu => by simp at hu) (fun u hu => by cases hu)
  ·obtain ⟨b, o, cs, T, fr, rfl, h6, h7⟩ := ah h0
   refine Src.ofSlice W ht _ _ c _ (pJ hk m) (fun j u hu => ?_) Q
   obtain ⟨i, x, q, h8, h9, rfl⟩ := Fz hk m j u hu
   obtain ⟨ys, _, ae, ag⟩ := h7 i x h8
   cases ae
   rw [dA, gk W b (o + (i * k + q)) cs T fr h6, ← ek]
   exact ag q u h9
 have n := pJ hk m
 have O : ((l ++ m).map enc).flatten = (l.map enc).flatten ++ (m.map enc).flatten := by simp
 generalize (m.map enc).flatten = fm at I Q n O
 subst a1
 have aq : l.length * i.size ≤ cap * i.size := cM _ h2
 by_cases G : l.length + m.length ≤ cap
 ·have ar : l.length * i.size + m.length * i.size ≤ cap * i.size := by rw [← cL]; exact cM _ G
  have aa := iB (P := P) s (off + l.length * i.size) e fm 0 p W hg (by rw [n]; omega) Q
  have M : (Builtin.append_ #[t, t] ty #[.slice (some ⟨s, off, none⟩) l.length cap, .slice A m.length c]).run P W = .ok (.slice (some ⟨s, off, none⟩) (l.length + m.length) cap) (W.setRow s (p.toList.take (off + l.length * i.size) ++ fm ++ p.toList.drop (off + l.length * i.size + fm.length)).toArray) := by
   simp [Builtin.append_, aV ht, sizeOf, typeInfo, hi, I.len, G, I.cells, dA]
   simp only [fN] at aa
   rw [aa]
   simp
  refine .inl ⟨_, _, U _ _ M, h _ _ [(s, _)] (by simpa using L.store _) (.inr ⟨s, off, cap, _, by rw [aD], rfl, by simpa using G, h3, ?_, ?_⟩)⟩
  ·simp only [dx, aD, dv, gG, cZ, n]
   rw [dC (by omega)]
   omega
  ·have hA : (p.toList.take (off + l.length * i.size)).length = off + l.length * i.size := by simp; omega
   show ((p.toList.take (off + l.length * i.size) ++ (fm ++ p.toList.drop (off + l.length * i.size + fm.length))).drop off).take ((l ++ m).length * i.size) = _
   rw [O, List.drop_append, iq, hA, show off - (off + l.length * i.size) = 0 by omega, List.drop_zero, show off + l.length * i.size - off = l.length * i.size by omega, h5]
   rw [aD, cL, fe, fe, J, n, dB (by rw [J]; omega), show l.length * i.size + m.length * i.size - l.length * i.size = m.length * i.size by omega, dB (by rw [n]; omega)]
   simp
 ·have hold : (Builtin.firstCells i.size l.length (.slice (some ⟨s, off, none⟩) l.length cap)).run P W.drew = .ok ((l.map enc).flatten).toArray W.drew := by
   refine run_firstCells_some W.drew i.size l.length ⟨s, off, none⟩ l.length cap _ J (fun j u hu => ?_)
   rw [dA]
   show W.cell? ⟨s, off + j, none⟩ = some u
   rw [gk W s (off + j) p e (0, 0) hg]
   rw [← h5] at hu
   have hj : j < l.length * i.size := by have := (bJ.1 hu).1; simp at this; omega
   rw [dP hj, dJ] at hu
   simpa using hu
  have hlen : (l ++ m).length = l.length + m.length := aD
  have aj := grownCap_ge W (l.length + m.length) cap e
  have ai := ij W (l.length + m.length) cap e Z.2
  have M := run_append_grow_src (P := P) W t t ty e i z ht hi hz (some ⟨s, off, none⟩) l.length cap ((l.map enc).flatten) hold _ m.length _ I (by omega) (by have := Z.2; unfold maxLen at this; omega) (growslice_fits (by omega) (by rw [a8]; exact Z.1))
  have h6 := L.drew.alloc (.cells (((l.map enc).flatten ++ fm).toArray ++ Builtin.zeroCells z.cells (grownCap W (l.length + m.length) cap e - (l.length + m.length))) e (0, 0))
  have h7 := (ST.drop (A := (W.drew.heap.size, _) :: X) h6).perm (L' := X ++ ([(W.heap.size, _)] ++ Y)) (by simpa using (eE (a := (W.heap.size, _)) (l₁ := X) (l₂ := Y)).symm)
  refine .inl ⟨_, _, U _ _ M, h _ _ _ h7 (jM.SG (.inr ⟨W.heap.size, grownCap W (l.length + m.length) cap e, _, by rw [hlen], rfl, by rw [hlen]; exact aj, ai, ?_, ?_⟩))⟩
  ·rw [Array.size_append, size_zeroCells, ab]
   simp only [dx, aD, J, n]
   rw [← cL, ← cL]
   congr 1
   omega
  ·rw [Array.toList_append, List.toList_toArray, hlen, O, List.take_append_of_le_length (by simp only [aD, J, n]; rw [cL]; exact aU _), dB (by simp only [aD, J, n]; rw [cL]; exact aU _)]
end
end Go.Proofs.YtjjjihkifgdhgaaGreat
namespace Go.Proofs.YtjjjihkifgdhgaaGreat
open Go.RowKit
variable [M : Md]
section
variable {P : Program} {ops : Array Oper} {Q : Exit → Act → World → Prop} {S : Array Bool → World → Prop}
def wP (ops : Array Oper) (l : Array Bool) : Prop := ∀ j o, ops[j]? = some o → l.getD j true = true → ∀ e ∈ o.after, Region.binds .any e = true → l.getD e.on true = true
def Gh (ops : Array Oper) : Nat → List Nat → Bool
 | _, [] => true
 | j, k :: r => (match ops[j]? with | some o => o.after.any (fun e => Region.binds .any e && e.on == k) | none => false) && Gh ops k r
theorem FW {l : Array Bool} (d : wP ops l) : ∀ (r : List Nat) (j i : Nat), Gh ops j r = true → (j :: r).getLast? = some i → l.getD j true = true → l.getD i true = true
 | [], j, i, _, h, a => by simp at h; subst h; exact a
 | k :: r, j, i, h, m, a => by
  simp only [Gh, bk] at h
  obtain ⟨h1, g⟩ := h
  cases b : ops[j]? with
  | none => rw [b] at h1; cases h1
  | some o =>
   rw [b] at h1
   simp only [Array.any_eq_true] at h1
   obtain ⟨n, p, h1⟩ := h1
   simp only [bk, gd] at h1
   have := d j o b a o.after[n] (Array.getElem_mem p) h1.1
   rw [h1.2] at this
   exact FW d r k i g (by simpa [List.getLast?_cons_cons] using m) this
def Fu (ops : Array Oper) (i : Nat) (l : Array Bool) : Prop := wP ops l ∧ l.getD i true = false
theorem Fu.Bk {l : Array Bool} {i : Nat} (h : Fu ops i l) (j : Nat) (r : List Nat) (a : Gh ops j r = true) (d : (j :: r).getLast? = some i) : l.getD j true = false := by
 cases b : l.getD j true with
 | false => rfl
 | true => have := FW h.1 r j i a d b; rw [h.2] at this; cases this
theorem wP.start (n : Nat) (h : n = ops.size) : wP ops (Array.replicate n false) := by
 subst h
 intro j o d b
 have a : j < ops.size := (du.1 d).1
 simp [a] at b
theorem wP.set {l : Array Bool} {i : Nat} (h : wP ops l) (r : i ∈ Region.ready .any ops l) : wP ops (l.setIfInBounds i true) := by
 intro j o q p e he n
 have up : ∀ {k : Nat}, l.getD k true = true → (l.setIfInBounds i true).getD k true = true := fun {k} hk => by
  by_cases d : i = k
  ·subst d
   by_cases m : i < l.size
   ·simp [m]
   ·simp [m]
  ·rw [je true d]; exact hk
 by_cases b : i = j
 ·subst b
  obtain ⟨_, o', g, a⟩ := jk.1 r
  rw [q] at g
  cases g
  refine up ?_
  have := a e he n
  by_cases m : e.on < l.size
  ·simp [m] at this ⊢; exact this
  ·simp [m]
 ·rw [je true b] at p
  exact up (h j o q p e he n)
def BP (P : Program) (ops : Array Oper) (S : Array Bool → World → Prop) (i : Nat) (o : Oper) (v : Value) (a : Act) : Prop :=
 (Region.wanted o (yielded ops a.tmps) = true ∧ ∀ l w, Fu ops i l → S l w → (execOp a.eval o).run P w = .ok (.value v) w) ∨
 (Region.wanted o (yielded ops a.tmps) = false ∧ v = undef)
theorem BP.SJ {i : Nat} {o : Oper} {v : Value} {a : Act} {l : Array Bool} (h : BP P ops S i o v a) (hp : Fu ops i l) : YieldsIf P ops (S l) o v a :=
 h.imp (fun ⟨h1, b⟩ => ⟨h1, fun w hw => b l w hp hw⟩) id
def KT (P : Program) (ops : Array Oper) (Q : Exit → Act → World → Prop) (S : Array Bool → World → Prop) : Nat → Array Bool → Act → World → Prop
 | 0, l, a, w => Region.ready .any ops l = [] ∧ Q .normal a w
 | n + 1, l, a, w => (Region.ready .any ops l = [] → Q .normal a w) ∧
  ∀ i ∈ Region.ready .any ops l, wpOp P ops Q i (fun d b => S (l.setIfInBounds i true) b ∧ KT P ops Q S n (l.setIfInBounds i true) d b) a w
theorem J7 : ∀ (n : Nat) (l : Array Bool) (a : Act) (w : World), KT P ops Q S n l a w → wpAny P .any ops Q n l a w
 | 0, _, _, _, h => h
 | n + 1, _, _, _, h => ⟨h.1, fun i g => wpOp_mono (fun b j d => J7 n _ b j d.2) (h.2 i g)⟩
theorem Nt {i j : Nat} {d q : Oper} {v : Value} (u : ops[j]? = some q) (m : d.apart ops q = true) (n : ∀ cs b, d.op ≠ .select cs b) (p : ∀ cs b, q.op ≠ .select cs b) (t : ∀ c a w, Q (.panic c) (a.put d.dst v) w → Q (.panic c) a w) {K : Act → World → Prop} {a : Act} {w : World} (x : BP P ops S i d v a) (h : wpOp P ops Q j K (a.put d.dst v) w) :
  wpOp P ops Q j (fun g s => BP P ops S i d v g ∧ K (g.put d.dst v) s) a w := by
 have h1 : YieldsIf P ops (fun w => ∃ l, Fu ops i l ∧ S l w) d v a := x.imp (fun ⟨h1, k⟩ => ⟨h1, fun w ⟨l, hp, hw⟩ => k l w hp hw⟩) id
 refine wpOp_mono (fun g s r => ⟨r.1.imp (fun ⟨h1, k⟩ => ⟨h1, fun l w hp hw => k w ⟨l, hp, hw⟩⟩) id, r.2⟩) (wpOp_putIf (S := fun w => ∃ l, Fu ops i l ∧ S l w) u m n p t h1 h)
theorem HQ {i : Nat} {x : Oper} {v : Value} (W : ops[i]? = some x) (s : ∀ (j : Nat) (o : Oper) cs b, ops[j]? = some o → o.op ≠ .select cs b) (hQ : ∀ c a w, Q (.panic c) (a.put x.dst v) w → Q (.panic c) a w) (hm : ∀ l w, S (l.setIfInBounds i true) w → S l w) :
  ∀ (n : Nat) (l : Array Bool) (a : Act) (w : World), (∀ j y, ops[j]? = some y → j ≠ i → l.getD j true = false → (∀ e ∈ y.after, Region.binds .any e = true → e.on ≠ i) → x.apart ops y = true) →
   wP ops l → i ∈ Region.ready .any ops l → BP P ops S i x v a → S (l.setIfInBounds i true) w → KT P ops Q S n (l.setIfInBounds i true) (a.put x.dst v) w → KT P ops Q S (n + 1) l a w := by
 intro n
 induction n with
 | zero =>
  intro l a w _ M q O z H
  refine ⟨fun h => (by rw [h] at q; cases q), fun j G => ?_⟩
  by_cases d : j = i
  ·subst d
   exact (O.SJ ⟨M, (jk.1 q).1⟩).wpOp W (hm l w z) ⟨z, H⟩
  ·have := ready_mono G d
   rw [H.1] at this
   cases this
 | succ n ih =>
  intro l a w m M q O z H
  refine ⟨fun h => (by rw [h] at q; cases q), fun j G => ?_⟩
  by_cases d : j = i
  ·subst d
   exact (O.SJ ⟨M, (jk.1 q).1⟩).wpOp W (hm l w z) ⟨z, H⟩
  have h1 := H.2 j (ready_mono G d)
  obtain ⟨r, y, u, E⟩ := jk.1 G
  have J : ∀ e ∈ y.after, Region.binds .any e = true → e.on ≠ i := fun e he hb U => by
   have t := E e he hb
   have h0 := (jk.1 q).1
   rw [U] at t
   rcases Nat.lt_or_ge i l.size with R | R
   ·simp [R] at h0 t; rw [h0] at t; cases t
   ·simp [Array.getElem?_eq_none R] at t
  have t := Nt u (m j y u d r J) (fun cs b => s i x cs b W) (fun cs b => s j y cs b u) hQ O h1
  have p : ∀ k ok, ops[k]? = some ok → k ≠ i → (l.setIfInBounds j true).getD k true = false → (∀ e ∈ ok.after, Region.binds .any e = true → e.on ≠ i) → x.apart ops ok = true := fun k ok hk Y L Z => by
   refine m k ok hk Y ?_ Z
   by_cases I : j = k
   ·subst I; exact r
   ·rw [je true I] at L; exact L
  have g : (l.setIfInBounds i true).setIfInBounds j true = (l.setIfInBounds j true).setIfInBounds i true := Array.setIfInBounds_comm _ _ (Ne.symm d)
  refine wpOp_mono (fun a' w' T => ?_) t
  have h4 : S ((l.setIfInBounds j true).setIfInBounds i true) w' := by rw [← g]; exact T.2.1
  refine ⟨hm _ w' h4, ih (l.setIfInBounds j true) a' w' p (M.set G) (ready_mono q (Ne.symm d)) T.1 h4 ?_⟩
  rw [← g]
  exact T.2.2
end
theorem Ss {ro : Md} {P : Program} {o : Oper} {a : Act} {w : World} {K : Act → World → Prop} {Q : Exit → Act → World → Prop} (i : ∀ c, o.op ≠ .defer c) (h : o.wp P a w K Q) (k : ¬ LetsOut Q) : o.wpIn ro.F 0 P a w K Q := by
 refine ⟨fun _ _ => trivial, ?_⟩
 rw [Oper.semAt_eq _ _ _ i]
 unfold Oper.wp at h
 cases g : (execOp a.eval o).run P w with
 | ok x b =>
  rw [g] at h
  cases x with
  | value v => exact h
  | skip => exact h
  | defer d => exact h
  | enter f args => exact He (cT h fun e j he => by cases e with
   | returned v => exact he
   | panicked c => exact he
   | outgrown => exact he)
  | row r args => exact ⟨fun e => (nomatch (show (none : Option Nat).isSome = true from e)), fun c cs _ => by
    obtain ⟨v, b, r, s⟩ := h c cs
    exact ⟨v, b, r, (stepsIn_wide (P := P)).2 s⟩⟩
  | _ => exact h.elim
 | halt z b =>
  rw [g] at h
  cases z with
  | panic v => exact h
  | _ => exact h.elim
def KR (ops : Array Oper) : Prop := ∀ (i : Nat) (o : Oper), ops[i]? = some o → ∀ c, o.op ≠ .defer c
theorem Ct {ro : Md} {P : Program} {ops : Array Oper} {Q : Exit → Act → World → Prop} (g : KR ops) (d : ¬ LetsOut Q) : ∀ (n : Nat) (l : Array Bool) (a : Act) (w : World), wpAny P .any ops Q n l a w → wpAnyIn ro.F 0 P .any ops Q n l a w
 | 0, _, _, _, h => h
 | n + 1, l, a, w, h => ⟨h.1, fun i k => by
  have b := h.2 i k
  unfold wpOp at b
  unfold wpOpIn
  cases j : ops[i]? with
  | none => rw [j] at b; exact Ct g d n _ a w b
  | some o =>
   rw [j] at b
   simp only at b ⊢
   split
   ·rename_i hw
    rw [aZ hw] at b
    rcases b with b | b
    ·exact Oper.wpIn_mono (fun a w h => Ct g d n _ a w h) (Ss (g i o j) b d)
    ·exact absurd b.2 d
   ·rename_i hw
    rw [aY hw] at b
    exact ⟨fun _ _ => trivial, Ct g d n _ _ w b⟩⟩
def Lr (l : List Oper) : Bool := l.all fun o => match o.op with
 | .defer _ => false
 | _ => true
theorem PM {l : List Oper} (h : Lr l = true) : KR l.toArray := fun i o a c b => by
 have hm : o ∈ l := by
  rw [fE] at a
  exact cV a
 have := eF.1 h o hm
 rw [b] at this
 cases this
theorem Q6 [M : Md] {n : Nat} {Q : nr} : ¬ LetsOut (lift n Q) := fun ⟨_, _, h⟩ => h
def PX (P : Program) (n : Nat) (ops : Array Oper) (Q : nr) (S : Array Bool → World → Prop) (fuel : Nat) (listed : Array Bool) (E : Nat → Value) (W : World) : Prop :=
 wP ops listed → ∀ a, Ag n a E → KT P ops (lift n Q) S fuel listed a W
section
variable {P : Program} {n : Nat} {Q : nr} {E : Nat → Value} {W : World} {ops : Array Oper} {S : Array Bool → World → Prop} {fuel : Nat} {listed : Array Bool}
theorem Ji {id : Nat} {l : List Oper} (S : Array Bool → World → Prop) (hm : P.follows .mixedOrders = true) (h : PX P n l.toArray Q S l.length (Array.replicate l.length false) E W.drew) (b : Lr l = true) : CW P n (.region id l.toArray true) Q E W := fun a ha =>
 wpIn_region_any hm (Ct (PM b) Q6 _ _ _ _ (J7 _ _ _ _ (h (wP.start _ (by simp)) a ha)))
def Bi (ops : Array Oper) (listed : Array Bool) (i : Nat) : Bool := Region.noSelect ops && Region.free .any ops listed i && (Region.ready .any ops listed).contains i
theorem jZ {o : Oper} {dd : Nat} {v : Value} (i : Nat) (g : ops[i]? = some o) (hk : Bi ops listed i = true) (hw : rE n ops E o) (m : o.dst = some dd) (p : dd < n) (hm : ∀ l w, S (l.setIfInBounds i true) w → S l w) (k : S (listed.setIfInBounds i true) W) (q : ∀ l W, Fu ops i l → S l W → lD P E o W v W) (h : PX P n ops Q S fuel (listed.setIfInBounds i true) (nm E dd v) W) : PX P n ops Q S (fuel + 1) listed E W := fun d a ha => by
 simp only [Bi, bk] at hk
 have j : i ∈ Region.ready .any ops listed := by simpa using hk.2
 exact HQ g (Region.noSelect_spec hk.1.1) (fun _ _ _ h => IX h) hm fuel listed a W (Region.free_spec g hk.1.2) d j (.inl ⟨hw.of ha, fun l w hp b => by rw [ha.eval]; exact q l w hp b⟩) k (by rw [m]; exact h (d.set j) _ (ha.put p v))
theorem ua {A : Value → Prop} {o : Oper} {dd : Nat} (i : Nat) (g : ops[i]? = some o) (hk : Bi ops listed i = true) (hw : rE n ops E o) (d : o.dst = some dd) (j : dd < n) (hm : ∀ l w, S (l.setIfInBounds i true) w → S l w) (b : S (listed.setIfInBounds i true) W) (k : ∃ p, A p ∧ ∀ W, lD P E o W p W) (h : ∀ p, A p → PX P n ops Q S fuel (listed.setIfInBounds i true) (nm E dd p) W) : PX P n ops Q S (fuel + 1) listed E W := by
 obtain ⟨p, h1, a⟩ := k
 exact jZ i g hk hw d j hm b (fun _ W _ _ => a W) (h p h1)
theorem KB {o : Oper} {dd : Nat} (i : Nat) (d : ops[i]? = some o) (hk : Bi ops listed i = true) (hw : ∀ a, Ag n a E → Region.wanted o (yielded ops a.tmps) = false) (k : o.dst = some dd) (m : dd < n) (hm : ∀ l w, S (l.setIfInBounds i true) w → S l w) (j : S (listed.setIfInBounds i true) W) (h : PX P n ops Q S fuel (listed.setIfInBounds i true) (nm E dd undef) W) : PX P n ops Q S (fuel + 1) listed E W := fun b a ha => by
 simp only [Bi, bk] at hk
 have g : i ∈ Region.ready .any ops listed := by simpa using hk.2
 exact HQ d (Region.noSelect_spec hk.1.1) (fun _ _ _ h => IX h) hm fuel listed a W (Region.free_spec d hk.1.2) b g (.inr ⟨hw a ha, rfl⟩) j (by rw [k]; exact h (b.set g) _ (ha.put m _))
theorem Sm {o : Oper} {dd j t : Nat} {want : Bool} (i : Nat) (m : ops[i]? = some o) (hk : Bi ops listed i = true) (k : o.guard = some (j, want)) (p : (ops[j]?).bind (·.dst) = some t) (r : t < n) (b : E t = .bool (!want)) (g : o.dst = some dd) (q : dd < n) (hm : ∀ l w, S (l.setIfInBounds i true) w → S l w) (d : S (listed.setIfInBounds i true) W) (h : PX P n ops Q S fuel (listed.setIfInBounds i true) (nm E dd undef) W) : PX P n ops Q S (fuel + 1) listed E W :=
 KB i m hk (fun a ha => by have s := ha.yield p r b; simp [Region.wanted, k, s]) g q hm d h
theorem QE {o : Oper} {dd j t : Nat} {want : Bool} (i : Nat) (m : ops[i]? = some o) (hk : Bi ops listed i = true) (k : o.guard = some (j, want)) (p : (ops[j]?).bind (·.dst) = some t) (r : t < n) (b : E t = undef) (g : o.dst = some dd) (q : dd < n) (hm : ∀ l w, S (l.setIfInBounds i true) w → S l w) (d : S (listed.setIfInBounds i true) W) (h : PX P n ops Q S fuel (listed.setIfInBounds i true) (nm E dd undef) W) : PX P n ops Q S (fuel + 1) listed E W :=
 KB i m hk (fun a ha => by have s := ha.FN p r b; simp [Region.wanted, k, s]) g q hm d h
theorem QL {o : Oper} {dd : Nat} (i : Nat) (s : ops[i]? = some o) (g : Region.ready .any ops listed = [i]) (hw : rE n ops E o) (l : o.dst = some dd) (m : dd < n) (h : mL P E o W fun v W' => S (listed.setIfInBounds i true) W' ∧ PX P n ops Q S fuel (listed.setIfInBounds i true) (nm E dd v) W') : PX P n ops Q S (fuel + 1) listed E W := fun k a ha => by
 have b : i ∈ Region.ready .any ops listed := by rw [g]; simp
 refine ⟨fun r => (by rw [r] at g; cases g), fun j p => ?_⟩
 rw [g] at p
 obtain rfl := bM.1 p
 unfold wpOp
 simp only [s]
 rw [aZ (hw.of ha)]
 refine .inl ?_
 unfold Oper.wp
 rw [ha.eval]
 rcases h with ⟨v, W', h1, d⟩ | ⟨W', h1, d⟩ | ⟨f, args, h1, d⟩
 ·rw [h1, iZ]; exact ⟨d.1, by rw [l]; exact d.2 (k.set b) _ (ha.put m v)⟩
 ·rw [h1, Oper.upon_skip]; exact ⟨d.1, by rw [l]; exact d.2 (k.set b) _ (ha.put m _)⟩
 ·rw [h1, ja]
  refine cT d ?_
  rintro e t ⟨v, rfl, q⟩
  exact ⟨q.1, by simp only [l]; exact q.2 (k.set b) _ (ha.put m v)⟩
theorem RV {o : Oper} (i : Nat) (r : ops[i]? = some o) (g : Region.ready .any ops listed = [i]) (hw : rE n ops E o) (l : o.dst = none) (h : mL P E o W fun _ W' => S (listed.setIfInBounds i true) W' ∧ PX P n ops Q S fuel (listed.setIfInBounds i true) E W') : PX P n ops Q S (fuel + 1) listed E W := fun k a ha => by
 have b : i ∈ Region.ready .any ops listed := by rw [g]; simp
 refine ⟨fun q => (by rw [q] at g; cases g), fun j m => ?_⟩
 rw [g] at m
 obtain rfl := bM.1 m
 unfold wpOp
 simp only [r]
 rw [aZ (hw.of ha)]
 refine .inl ?_
 unfold Oper.wp
 rw [ha.eval]
 rcases h with ⟨v, W', h1, d⟩ | ⟨W', h1, d⟩ | ⟨f, args, h1, d⟩
 ·rw [h1, iZ, l]; exact ⟨d.1, d.2 (k.set b) _ (ha.yF _)⟩
 ·rw [h1, Oper.upon_skip, l]; exact ⟨d.1, d.2 (k.set b) _ (ha.yF _)⟩
 ·rw [h1, ja]
  refine cT d ?_
  rintro e s ⟨v, rfl, p⟩
  simp only [l]
  exact ⟨p.1, p.2 (k.set b) _ (ha.yF _)⟩
theorem kM (d : Region.ready .any ops listed = []) (h : Q .normal E W) : PX P n ops Q S fuel listed E W := fun _ a ha => by
 cases fuel with
 | zero => exact ⟨d, E, ha, h⟩
 | succ f => exact ⟨fun _ => ⟨E, ha, h⟩, fun i b => by rw [d] at b; cases b⟩
theorem wJ {p : Prop} {b : Bool} (a : b = true) (h : b = false) : p := by rw [a] at h; cases h
theorem oF {a : Array Bool} (b : listed = a) (h : PX P n ops Q S fuel a E W) : PX P n ops Q S fuel listed E W := by rw [b]; exact h
theorem Gc {o o' : Oper} {d r : Nat} (i j : Nat) (J : ops[i]? = some o) (L : ops[j]? = some o') (p : Region.ready .any ops listed = [i, j]) (hw : rE n ops E o) (w : rE n ops E o') (l : o.dst = some d) (t : o'.dst = some r) (m : d < n) (u : r < n) (h : mL P E o W fun v W' => S (listed.setIfInBounds i true) W' ∧ PX P n ops Q S fuel (listed.setIfInBounds i true) (nm E d v) W') (G : mL P E o' W fun v W' => S (listed.setIfInBounds j true) W' ∧ PX P n ops Q S fuel (listed.setIfInBounds j true) (nm E r v) W') : PX P n ops Q S (fuel + 1) listed E W := fun s a ha => by
 have key : ∀ (k : Nat) (q : Oper) (e : Nat), ops[k]? = some q → k ∈ Region.ready .any ops listed → rE n ops E q → q.dst = some e → e < n → (mL P E q W fun v W' => S (listed.setIfInBounds k true) W' ∧ PX P n ops Q S fuel (listed.setIfInBounds k true) (nm E e v) W') →
   wpOp P ops (lift n Q) k (fun z x => S (listed.setIfInBounds k true) x ∧ KT P ops (lift n Q) S fuel (listed.setIfInBounds k true) z x) a W := by
  intro k q e hk b hw l m h
  unfold wpOp
  simp only [hk]
  rw [aZ (hw.of ha)]
  refine .inl ?_
  unfold Oper.wp
  rw [ha.eval]
  rcases h with ⟨v, W', h1, g⟩ | ⟨W', h1, g⟩ | ⟨f, args, h1, g⟩
  ·rw [h1, iZ]; exact ⟨g.1, by rw [l]; exact g.2 (s.set b) _ (ha.put m v)⟩
  ·rw [h1, Oper.upon_skip]; exact ⟨g.1, by rw [l]; exact g.2 (s.set b) _ (ha.put m _)⟩
  ·rw [h1, ja]
   refine cT g ?_
   rintro e x ⟨v, rfl, y⟩
   exact ⟨y.1, by simp only [l]; exact y.2 (s.set b) _ (ha.put m v)⟩
 refine ⟨fun I => (by rw [I] at p; cases p), fun k hk => ?_⟩
 rw [p] at hk
 rcases aK.1 hk with rfl | hk
 ·exact key _ o d J (by rw [p]; simp) hw l m h
 ·obtain rfl := bM.1 hk
  exact key _ o' r L (by rw [p]; simp) w t u G
theorem kB {l : Array Bool} {i j : Nat} {A : Prop} (a : Nat.beq i j = false) (h : (l.setIfInBounds i true).getD j true = false → A) : l.getD j true = false → A := fun b => h (by
 rw [je true (fun e => by subst e; simp at a)]; exact b)
end
theorem Al.at {α : Type} {e : TypeId} {enc : α → List Value} {k : Nat} {v : Value} {l : List α} {R : List (Nat × Obj)} (h : jM e enc k v l R) (hk : ∀ x, (enc x).length = k) {p : Value} {i : Nat} (hp : Al R k p i) {x : α} (g : l[i]? = some x) : At (BE R) p (enc x) := by
 obtain ⟨b, a, cap, rfl, rfl, _, _, _, _, rfl, d⟩ := An h hk hp g
 exact ⟨b, i * k, a, e, (0, 0), rfl, by simp [BE], d⟩
theorem uj.form {κ β : Type} {kenc : κ → Value} {vf : β → Value} {μ : jN} {v : Value} {l : List (κ × β)} (h : uj kenc vf μ v l) : ∃ r, v = .map r := by
 rcases h with ⟨h, _⟩ | ⟨m, es, clock, h, _⟩
 ·exact ⟨_, h⟩
 ·exact ⟨_, h⟩
noncomputable def FM {β : Type} (l : List (ByteArray × β)) : Option (List ByteArray) :=
 open Classical in if (l.map (·.1)).Nodup ∧ (∀ p ∈ l, p.1.size ≤ maxLen) ∧ l.length * 16 ≤ 140737488355328 then some (uz (l.map (·.1))) else none
theorem uF.zip {κ γ : Type} {Q : Value → γ → List (Nat × Obj) → Prop} : ∀ {g : List (κ × Value)} {l : List (κ × γ)} {R : List (Nat × Obj)}, uF Q g l R →
  ∃ a : List (κ × (Value × γ)), a.map (fun p => (p.1, p.2.1)) = g ∧ a.map (fun p => (p.1, p.2.2)) = l ∧ ∀ p ∈ a, ∃ R1, Q p.2.1 p.2.2 R1 ∧ ∀ x ∈ R1, x ∈ R
 | [], [], R, _ => ⟨[], rfl, rfl, fun _ h => by cases h⟩
 | [], _ :: _, _, h => h.elim
 | _ :: _, [], _, h => h.elim
 | p :: g, q :: l, R, h => by
  obtain ⟨h1, R1, R2, rfl, m, n⟩ := h
  obtain ⟨a, i, j, k⟩ := uF.zip n
  refine ⟨(q.1, (p.2, q.2)) :: a, by simp [i, ← h1], by simp [j], fun x b => ?_⟩
  rcases aK.1 b with rfl | b
  ·exact ⟨R1, m, fun y d => cD _ d⟩
  ·obtain ⟨R3, r, s⟩ := k x b
   exact ⟨R3, r, fun y d => dt _ (s y d)⟩
theorem ou.zip {κ κ2 β : Type} {kenc : κ → Value} {kenc2 : κ2 → Value} {vf : β → Value} {μ : jN} {v : Value} {l : List (κ × List (κ2 × β))} (h : ou kenc (kZ kenc2 vf) μ v l) :
  ∃ a : List (κ × (Value × List (κ2 × β))), a.map (fun p => (p.1, p.2.2)) = l ∧ uj kenc (fun x => x.1) μ v a ∧ ∀ p ∈ a, uj kenc2 vf μ p.2.1 p.2.2 := by
 obtain ⟨u, R, ⟨s, t, rfl, ⟨m, es, clock, rfl, rfl, d⟩, q⟩, g⟩ := h
 obtain ⟨a, i, j, k⟩ := q.zip
 refine ⟨a, j, .inr ⟨m, es, clock, rfl, g _ _ (by simp), ⟨?_, d.born, d.lt⟩⟩, fun p hp => ?_⟩
 ·rw [d.CY, ← i]; simp
 ·obtain ⟨R1, h1, n⟩ := k p hp
  exact h1.at (fun b o r => g b o (dt _ (n _ r)))
def Nf {κ κ2 β α : Type} (a : Nat) (mk : κ → κ2 → α) (l : List (κ × List (κ2 × β))) : Option (List α) :=
 if (l.flatMap (fun p => p.2.map (fun q => mk p.1 q.1))).length * a ≤ 140737488355328 ∧ (l.flatMap (fun p => p.2.map (fun q => mk p.1 q.1))).length ≤ maxLen then some (l.flatMap (fun p => p.2.map (fun q => mk p.1 q.1))) else none
end Go.Proofs.YtjjjihkifgdhgaaGreat
namespace Go.Proofs.YtjjjihkifgdhgaaGreat
open Go.RowKit
variable [M : Md]
section
variable {P : Program} {n : Nat} {Q : nr} {E : Nat → Value} {W : World} {ops : Array Oper} {rest : List Oper}
variable {dd : Bool} {α : Type} {enc : α → List Value} {k : Nat} {μ : jN} {v : Value}
variable {d : Option Nat} {ty : TypeId} {pos : String} {af : Array Edge} {g : Option (Nat × Bool)} {F : Nat → Prop} {w : World} {L : List (Nat × Obj)}
def Ge (enc : α → List Value) (k : Nat) : pA (List α) := fun μ ys x => ∃ v, ys = [v] ∧ Sl (Pl enc) k μ v x
theorem Ge.mono (enc : α → List Value) (k : Nat) : FX (Ge enc k) := fun _ _ _ _ b ⟨v, h1, a⟩ => ⟨v, h1, a.mono (Pl.mono _) b⟩
inductive AT (enc : α → List Value) (k : Nat) (μ : jN) : List Value → List (List α) → Prop
 | nil : AT enc k μ [] []
 | cons {v : Value} {x : List α} {vs : List Value} {l : List (List α)} : Sl (Pl enc) k μ v x → AT enc k μ vs l → AT enc k μ (v :: vs) (x :: l)
theorem AT.length {vs : List Value} {l : List (List α)} (h : AT enc k μ vs l) : vs.length = l.length := by
 induction h with
 | nil => rfl
 | cons _ _ ih => simp [ih]
theorem AT.get {vs : List Value} {l : List (List α)} (h : AT enc k μ vs l) : ∀ (i : Nat) (x : List α), l[i]? = some x → ∃ v, vs[i]? = some v ∧ Sl (Pl enc) k μ v x := by
 induction h with
 | nil => intro i x a; simp at a
 | cons h1 _ ih =>
  intro i x a
  cases i with
  | zero => simp at a; subst a; exact ⟨_, rfl, h1⟩
  | succ i => simpa using ih i x (by simpa using a)
theorem Ge.lit {b m : Nat} {vs : List Value} {e : TypeId} {l : List (List α)} (hm : l.length = m) (g : m ≤ maxLen) (n : μ b = some (.cells vs.toArray e (0, 0))) (h : AT enc k μ vs l) : Sl (Ge enc k) 1 μ (.slice (some ⟨b, 0, none⟩) m m) l := by
 subst hm
 refine ⟨_, _, rfl, aU _, g, fun _ => ⟨b, 0, _, _, _, rfl, n, fun i x p => ?_⟩⟩
 obtain ⟨v, h1, d⟩ := h.get i x p
 refine ⟨[v], rfl, ⟨v, rfl, d⟩, fun j y a => ?_⟩
 cases j with
 | zero => simp at a; subst a; simpa using h1
 | succ j => simp at a
theorem Jd {k2 : Nat} {t e : TypeId} {x a : Operand} {u : IntKind} {i : Int} {l : List (List α)} {x0 : List α} (r : P.underlying t = some (.slice e)) (he : ∀ w, (sizeOf e).run P w = .ok 1 w) (s : jz E x = v) (m : jz E a = .int u i) (q : Sl (Ge enc k2) 1 μ v l) (b : 0 ≤ i) (n : l[i.toNat]? = some x0) :
  ∃ p, (∃ v0, At μ p [v0] ∧ Sl (Pl enc) k2 μ v0 x0) ∧ ∀ W, lD P E ⟨d, .indexAddr t x a, ty, pos, af, g⟩ W p W := by
 obtain ⟨p, ys, h1, ⟨v0, rfl, h⟩, j, k⟩ := Hi (d := d) (ty := ty) (pos := pos) (af := af) (g := g) r he s m q b n
 exact ⟨p, ⟨v0, j, h⟩, k⟩
theorem Jf {x : Operand} {t e : TypeId} (a : P.underlying t = some (.slice e)) (b : jz E x = .slice none 0 0) : lD P E ⟨d, .call ⟨.builtin .cap, #[x], #[t]⟩, ty, pos, af, g⟩ W (.int .i64 0) W := by
 show (do let d ← resolve (jz E) ⟨.builtin .cap, #[x], #[t]⟩ ty; invoke d.target d.args : Sem Next).run P W = _
 simp [resolve, invoke, builtin, Builtin.cap_, aV a, b, goInt]
theorem Rq {x y : Operand} {ats : Array TypeId} {k : IntKind} {a b : Int} (h : jz E x = .int k a) (i : jz E y = .int k b) :
  lD P E ⟨d, .call ⟨.builtin .max, #[x, y], ats⟩, ty, pos, af, g⟩ W (.int k (if b > a then b else a)) W := by
 show (do let d ← resolve (jz E) ⟨.builtin .max, #[x, y], ats⟩ ty; invoke d.target d.args : Sem Next).run P W = _
 simp [resolve, invoke, h, i, builtin, Builtin.max_, Builtin.max2]
theorem L6 {t e : TypeId} {x ih : Operand} {i : IntKind} (b : P.underlying t = some (.slice e)) (he : ∀ w, (sizeOf e).run P w = .ok k w) (h : jz E x = .slice none 0 0) (a : jz E ih = .int i 0) :
  lD P E ⟨d, .slice t x none (some ih) none, ty, pos, af, g⟩ W (.slice none 0 0) W := by
 show (do pure (.value (← Instr.sliceAt t (jz E x) none (some (jz E ih)) none)) : Sem Next).run P W = _
 rw [h, a]
 simp [Instr.sliceAt, Instr.slice, Instr.sliceBounds, Instr.sliceBound, asIntOf, aV b, he W]
def GM {α : Type} (a : Nat) (z : α) (n : Int) : Option (List α) := if 0 < n ∧ n * a ≤ 140737488355328 ∧ n ≤ (maxLen : Int) then some (List.replicate n.toNat z) else none
theorem FF (t l ty e : TypeId) (i : TypeInfo) (z : Value) (v : P.underlying t = some (.slice e)) (k : P.underlying l = some (.int .i64)) (q : P.info? e = some i) (w : i.zero = some z) (n : Nat) (m : 0 < n) (u : 0 < i.size) (p : n ≤ 9223372036854775807) (d : n * i.bytes ≤ 140737488355328) (W : World) :
  (Builtin.append_ #[t, l] ty #[.slice none 0 0, .int .i64 (n : Int)]).run P W =
   .ok (.slice (some ⟨W.heap.size, 0, none⟩) n (grownCap W n 0 e)) (W.drew.alloc (.cells (Builtin.zeroCells z.cells n ++ Builtin.zeroCells z.cells (grownCap W n 0 e - n)) e)) := by
 have hw : IntKind.i64.wrap (n : Int) = (n : Int) := by unfold IntKind.wrap; simp [IntKind.bits, IntKind.signed]; omega
 have h1 : ¬ ((n : Int) < 0) := by omega
 have a : ¬ (281474976710656 < (n : Int) * i.bytes) := by
  have := Int.ofNat_le.2 d
  rw [Int.natCast_mul] at this
  omega
 have g : ¬ (n * i.size = 0) := fun h => by rcases Nat.mul_eq_zero.1 h with h | h <;> omega
 have r : n ≠ 0 := by omega
 have s : i.size ≠ 0 := by omega
 have b : ¬ (9223372036854775807 < (n : Int)) := by omega
 have j : ¬ (281474976710656 < Builtin.nextslicecap n 0 * i.bytes) := by rw [nextslicecap_zero m]; omega
 simp [Builtin.append_, aV v, aV k, sizeOf, typeInfo, zeroValue, q, w, asInt, asIntOf, hw, h1, a, r, b, j, Question.forced, run_firstCells_none, newRow, grownCap]
 exact fun h => absurd h g
theorem IJ {K : Value → World → Prop} {α : Type} {e t G : TypeId} {enc : α → List Value} {k q : Nat} {j : Value} {n : Int} {z : α} {r : List α} (X : List (Nat × Obj)) {Y : List (Nat × Obj)} {x y : Operand} {i : TypeInfo} (l : ST dd F w W μ (X ++ Y)) (hk : ∀ x, (enc x).length = k) (U : 0 < k) (ht : P.underlying t = some (.slice e)) (a6 : P.underlying G = some (.int .i64)) (hi : P.info? e = some i) (hz : i.zero = some j) (a1 : i.size = k) (O : i.bytes = q) (hc : j.cells = (enc z).toArray) (hx : jz E x = .slice none 0 0) (hy : jz E y = .int .i64 n) (a : GM q z n = some r) (h : ∀ W' v' R', ST dd F w W' μ (X ++ (R' ++ Y)) → jM e enc k v' r R' → K v' W') : mL P E ⟨d, .call ⟨.builtin .append, #[x, y], #[t, G]⟩, ty, pos, af, g⟩ W K := by
 unfold GM at a
 split at a
 case isFalse => cases a
 rename_i M
 cases a
 obtain ⟨n, rfl⟩ : ∃ m : Nat, n = (m : Int) := ⟨n.toNat, by omega⟩
 have Z : 0 < n := by omega
 subst a1; subst O
 have hM : n ≤ maxLen := by omega
 have L : n ≤ 9223372036854775807 := by simp only [maxLen] at hM; omega
 have J : n * i.bytes ≤ 140737488355328 := Int.ofNat_le.1 (by rw [Int.natCast_mul]; exact M.2.1)
 have hr := FF (P := P) t G ty e i j ht a6 hi hz n Z U L J W
 have u : (execOp (jz E) ⟨d, .call ⟨.builtin .append, #[x, y], #[t, G]⟩, ty, pos, af, g⟩).run P W = .ok (.value (.slice (some ⟨W.heap.size, 0, none⟩) n (grownCap W n 0 e))) (W.drew.alloc (.cells (Builtin.zeroCells j.cells n ++ Builtin.zeroCells j.cells (grownCap W n 0 e - n)) e)) := by
  show (do let d ← resolve (jz E) ⟨.builtin .append, #[x, y], #[t, G]⟩ ty; invoke d.target d.args : Sem Next).run P W = _
  simp [resolve, invoke, builtin, hx, hy, hr]
 have R := nU _ _ _ _ hr
 refine .inl ⟨_, _, u, ?_⟩
 have T := grownCap_ge W n 0 e
 have Q : grownCap W n 0 e ≤ maxLen := ij W n 0 e hM
 have a7 : ∀ m, (Builtin.zeroCells j.cells m).toList = (List.replicate m (enc z)).flatten := fun m => by rw [hc, BO]
 have v : j.cells.size = i.size := by rw [hc, dx, hk]
 have p : jM e enc i.size (.slice (some ⟨W.heap.size, 0, none⟩) n (grownCap W n 0 e)) (List.replicate n z) [(W.heap.size, .cells (Builtin.zeroCells j.cells n ++ Builtin.zeroCells j.cells (grownCap W n 0 e - n)) e (0, 0))] := by
  refine .inr ⟨W.heap.size, grownCap W n 0 e, _, by rw [gF], rfl, by simpa using T, Q, ?_, ?_⟩
  ·simp only [Array.size_append, size_zeroCells, v, ← cL]
   congr 1
   omega
  ·have I : (Builtin.zeroCells j.cells n).toList.length = n * i.size := by rw [cZ, size_zeroCells, v]
   rw [gF, Array.toList_append, ← I, List.take_left, a7, ir]
 refine h _ _ _ ?_ p
 have hex : Ex dd W (W.drew.alloc (.cells (Builtin.zeroCells j.cells n ++ Builtin.zeroCells j.cells (grownCap W n 0 e - n)) e)) := ⟨rfl, rfl, rfl, sO.of R, by simp, fun b a => heap_alloc_old W.drew _ a⟩
 have h1 := l.F3 hex
 have s := h1.nd
 refine ⟨h1.os, h1.tape, h1.output, h1.drawn, h1.size, h1.lO, h1.mem, fun b o a => ?_, ?_⟩
 ·simp only [aN, bM] at a
  rcases a with a | a | a
  ·exact h1.box b o (by simp [a])
  ·cases a
   refine ⟨heap_alloc_new W.drew _, ?_, .inl l.size⟩
   cases hm : μ W.heap.size with
   | none => rfl
   | some x => have := l.Co hm; omega
  ·exact h1.box b o (by simp [a])
 ·simp only [cE, bD, eu, fD] at s ⊢
  refine (fT eE).2 (cR.2 ⟨fun hm => ?_, s⟩)
  rw [← cE] at hm
  obtain ⟨⟨b, o⟩, a, I⟩ := bF.1 hm
  have := l.DI a
  simp at I
  omega
end
end Go.Proofs.YtjjjihkifgdhgaaGreat
namespace Go.Proofs.YtjjjihkifgdhgaaGreat
open Go.RowKit
variable {dd : Bool}
section
variable {P : Program} {fn : Func} {R : Ending → World → Prop} {E : Nat → Value} {W : World}
theorem vm {a : Tmp} {t0 : TypeId} {a0 : Addr} {v0 : Value} {b : Tmp} {v1 : Value} (g : fn.results = #[.cell a t0, .tmp b]) (d : E a = .pointer (some a0)) (j : (Instr.loadAt t0 (.pointer (some a0))).run P W = .ok v0 W) (h1 : E b = v1) (h : R (.returned (.tuple #[v0, v1])) W) : tz P fn R .ret E W :=
 ⟨.tuple #[v0, v1], fun tmps i => by
  have k : (loadVar t0 a0).run P W = .ok v0 W := by simpa [Instr.loadAt, Instr.sureAddr] using j
  simp [results, g, i, asAddr, d, k, h1], h⟩
theorem BM {b : Tmp} {t0 : TypeId} {a0 : Addr} {v0 : Value} {d : Tmp} {t1 : TypeId} {a : Addr} {v1 : Value} (i : fn.results = #[.cell b t0, .cell d t1]) (g : E b = .pointer (some a0)) (k : (Instr.loadAt t0 (.pointer (some a0))).run P W = .ok v0 W) (h1 : E d = .pointer (some a)) (l : (Instr.loadAt t1 (.pointer (some a))).run P W = .ok v1 W) (h : R (.returned (.tuple #[v0, v1])) W) : tz P fn R .ret E W :=
 ⟨.tuple #[v0, v1], fun tmps j => by
  have m : (loadVar t0 a0).run P W = .ok v0 W := by simpa [Instr.loadAt, Instr.sureAddr] using k
  have n : (loadVar t1 a).run P W = .ok v1 W := by simpa [Instr.loadAt, Instr.sureAddr] using l
  simp [results, i, j, asAddr, g, m, h1, n], h⟩
theorem OB {a : Tmp} {v0 : Value} {b : Tmp} {v1 : Value} {d : Tmp} {v2 : Value} (j : fn.results = #[.tmp a, .tmp b, .tmp d]) (g : E a = v0) (h1 : E b = v1) (i : E d = v2) (h : R (.returned (.tuple #[v0, v1, v2])) W) : tz P fn R .ret E W :=
 ⟨.tuple #[v0, v1, v2], fun tmps k => by
  skip
  simp [results, j, k, asAddr, g, h1, i], h⟩
end
end Go.Proofs.YtjjjihkifgdhgaaGreat
namespace Go.Proofs.YtjjjihkifgdhgaaGreat
open Go.RowKit
variable [M : Md]
section
variable {x y : Nat × Obj} {A B C L R S : List (Nat × Obj)}
theorem Pz : (x :: A).Perm (x :: A) := .refl _
theorem Pb (h : A.Perm (x :: B)) : (y :: A).Perm (x :: y :: B) := (h.cons y).trans (.swap ..)
theorem Pr (h : A.Perm (x :: B)) : (S ++ A).Perm (x :: (S ++ B)) := (h.append_left S).trans eE
theorem Qz : (R ++ A).Perm (R ++ A) := .refl _
theorem Qb (h : A.Perm (R ++ B)) : (y :: A).Perm (R ++ (y :: B)) := (h.cons y).trans List.perm_middle.symm
theorem Qr (h : A.Perm (R ++ B)) : (S ++ A).Perm (R ++ (S ++ B)) := (h.append_left S).trans (fH S R B)
def mS (L L' : List (Nat × Obj)) : Prop := ∃ M, L.Perm (L' ++ M)
theorem Sn : mS L [] := ⟨L, .refl _⟩
theorem St : mS L L := ⟨[], by rw [bI]⟩
theorem Sb (h : L.Perm (x :: A)) (k : mS A B) : mS L (x :: B) := let ⟨M, m⟩ := k; ⟨M, h.trans (m.cons x)⟩
theorem Sr (h : L.Perm (R ++ A)) (k : mS A B) : mS L (R ++ B) := let ⟨M, m⟩ := k; ⟨M, by rw [aG]; exact h.trans (m.append_left R)⟩
theorem Kb (k : mS A B) : mS (x :: A) (x :: B) := Sb Pz k
theorem Kr (k : mS A B) : mS (R ++ A) (R ++ B) := Sr Qz k
theorem Db (k : mS A B) : mS (x :: A) B := let ⟨M, m⟩ := k; ⟨x :: M, (m.cons x).trans List.perm_middle.symm⟩
theorem Dr (k : mS A B) : mS (R ++ A) B := let ⟨M, m⟩ := k; ⟨R ++ M, (m.append_left R).trans (fH R B M)⟩
theorem mS.mem (s : mS L A) : ∀ p, p ∈ A → p ∈ L := fun p hp => let ⟨M, m⟩ := s; m.mem_iff.2 (cD _ hp)
theorem ST.js {dd : Bool} {F : Nat → Prop} {w W : World} {μ : jN} (h : ST dd F w W μ L) (s : mS L A) : ST dd F w W μ A := let ⟨M, m⟩ := s; (h.perm m).sublist (List.sublist_append_left A M)
theorem nA.js {μ : jN} {W : World} (h : nA μ L W) (s : mS L A) : nA μ A W := h.sub (jR.refl _) s.mem
theorem nA.zB {μ μ' : jN} {W : World} (h : nA μ L W) (a : jR μ' μ) (s : mS L A) : nA μ' A W := h.sub a s.mem
theorem Cn : L.Perm ([] ++ L) := .refl _
theorem Cb (h : L.Perm (x :: A)) (k : A.Perm (B ++ C)) : L.Perm ((x :: B) ++ C) := h.trans (k.cons x)
theorem Cr (h : L.Perm (R ++ A)) (k : A.Perm (B ++ C)) : L.Perm ((R ++ B) ++ C) := by rw [aG]; exact h.trans (k.append_left R)
theorem C0 (k : L.Perm (B ++ C)) : L.Perm (([] ++ B) ++ C) := k
theorem Tn : ([] ++ A).Perm A := .refl _
theorem Tb (h : (A ++ B).Perm C) : ((x :: A) ++ B).Perm (x :: C) := h.cons x
theorem Tr (h : (A ++ B).Perm C) : ((R ++ A) ++ B).Perm (R ++ C) := by rw [aG]; exact h.append_left R
theorem Nb (h : L.Perm (x :: A)) (k : A.Perm B) : L.Perm (x :: B) := h.trans (k.cons x)
theorem Nr (h : L.Perm (R ++ A)) (k : A.Perm B) : L.Perm (R ++ B) := h.trans (k.append_left R)
theorem Nz : L.Perm L := .refl _
theorem Ts {R' R1 : List (Nat × Obj)} (hp : R.Perm (R' ++ R1)) : (R ++ A).Perm (R' ++ (R1 ++ A)) := by rw [← aG]; exact hp.append_right A
theorem Mh : x ∈ x :: A := .head _
theorem Mt (h : x ∈ A) : x ∈ y :: A := .tail _ h
theorem Ma (h : x ∈ A) : x ∈ R ++ A := dt _ h
theorem Ml (h : x ∈ R) : x ∈ R ++ A := cD _ h
end
section
variable {dd : Bool} {F : Nat → Prop} {w W : World} {μ : jN} {L L0 L1 Y R : List (Nat × Obj)}
theorem ST.EV (h : ST dd kK w W μ L) (s : mS L L1) : qK dd [] L1 w W := let ⟨_, m⟩ := s; (h.perm m).RZ
theorem ST.mi (h : ST dd (keys L0) w W μ L) (s : mS L L1) : qK dd L0 L1 w W := let ⟨_, m⟩ := s; (h.perm m).Sc
theorem ST.IF : ∀ {R : List (Nat × Obj)} {μ : jN}, ST dd F w W μ (R ++ Y) → ∃ μ', ST dd F w W μ' Y ∧ jR μ μ' ∧ Lo F w μ μ' ∧ ∀ b o, (b, o) ∈ R → μ' b = some o
 | [], μ, h => ⟨μ, h, jR.refl _, Lo.refl, fun _ _ h => by cases h⟩
 | (g, o) :: R, μ, h => by
  have d : ST dd F w W μ ([] ++ (g, o) :: (R ++ Y)) := h
  obtain ⟨μ', i, a2, a3, a4⟩ := ST.IF (R := R) (ST.Hh (A := []) d)
  refine ⟨μ', i, (ST.G2 (A := []) d).trans a2, (ST.Nj (A := []) d).trans a3, fun b o' a => ?_⟩
  rcases aK.1 a with a | a
  ·cases a; exact a2 _ _ (aZ rfl)
  ·exact a4 b o' a
theorem ST.Fi {α : Type} {e' : TypeId} {enc : α → List Value} {k : Nat} {v : Value} {l : List α} (a : ST dd F w W μ (R ++ Y)) (h : jM e' enc k v l R) (hk : ∀ x, (enc x).length = k) : ∃ μ', ST dd F w W μ' Y ∧ jR μ μ' ∧ Lo F w μ μ' ∧ Sl (Pl enc) k μ' v l := by
 obtain ⟨μ', b, a2, a3, a4⟩ := ST.IF a
 exact ⟨μ', b, a2, a3, h.sl hk a4⟩
section
variable {P : Program} {n : Nat} {Q : nr} {E : Nat → Value} {V : World} {id : Nat} {l : List Oper} {A B C : List (Nat × Obj)}
theorem kN (b : nA μ A V.drew) (hm : P.follows .mixedOrders = true) (h : PX P n l.toArray Q (fun _ W => nA μ A W) l.length (Array.replicate l.length false) E V.drew) (a : Lr l = true := by kernel_rfl) : CW P n (.region id l.toArray true) Q E V := Ji _ hm h a
theorem tR (i : Nat) (b : nA μ A V.drew) (h1 : nA μ B V.drew) (hm : P.follows .mixedOrders = true) (h : PX P n l.toArray Q (fun l W => nA μ A W ∧ (l.getD i true = false → nA μ B W)) l.length (Array.replicate l.length false) E V.drew) (a : Lr l = true := by kernel_rfl) : CW P n (.region id l.toArray true) Q E V := Ji _ hm h a
end
structure nT (μ : jN) (L0 : List (Nat × Obj)) (w : World) : Prop where
 H : zz L0 w
 N : (L0.map (·.1)).Nodup
 S : jR μ (pB w L0)
theorem ST.JC (h : nT μ L0 w) : ST dd (keys L0) w w μ L0 := (ST.Rc h.H h.N).lR h.S
end
section
variable {dd : Bool} {P : Program} {E : Nat → Value} {W : World} {d : Option Nat} {ty : TypeId} {pos : String} {af : Array Edge} {g : Option (Nat × Bool)} {F : Nat → Prop} {w : World} {μ : jN} {L : List (Nat × Obj)}
theorem jL {K : Value → World → Prop} {B : List (Nat × Obj)} {t : TypeId} {x y : Operand} (v : Value) {b off : Nat} {cs : Array Value} {T : TypeId} (a : Array Value) (i : ST dd F w W μ ((b, .cells cs T (0, 0)) :: B)) (m : jz E x = .pointer (some ⟨b, off, none⟩)) (n : jz E y = v) (j : ∀ w, (sizeOf t).run P w = .ok v.cells.size w) (h1 : ∀ u ∈ v.cells.toList, u.oneCell' = true) (l : off + v.cells.size ≤ cs.size) (k : (cs.toList.take off ++ v.cells.toList ++ cs.toList.drop (off + v.cells.size)).toArray = a) (h : ∀ W', ST dd F w W' μ ((b, .cells a T (0, 0)) :: B) → K undef W') : mL P E ⟨d, .store t x y, ty, pos, af, g⟩ W K := PO [] v a i m n j h1 l k h
end
section
variable {dd : Bool}
variable {P : Program} {n : Nat} {Q : nr} {E : Nat → Value} {W : World} {ops : Array Oper} {rest : List Oper}
 {d : Option Nat} {ty : TypeId} {pos : String} {af : Array Edge} {g : Option (Nat × Bool)}
 {F : Nat → Prop} {w : World} {μ : jN} {L : List (Nat × Obj)}
theorem oC {K : Value → World → Prop} {α : Type} {e t : TypeId} {enc : α → List Value} {k a : Nat} {z v vs : Value} {l m r : List α} {R Y : List (Nat × Obj)} {x y : Operand} {i : TypeInfo} (b : ST dd F w W μ (R ++ Y)) (hk : ∀ x, (enc x).length = k) (n : 0 < k) (h1 : ∀ x, ∀ u ∈ enc x, u.oneCell' = true) (M : P.underlying t = some (.slice e)) (J : P.info? e = some i) (T : i.zero = some z) (q : z.cells.size = k) (p : i.size = k) (j : i.bytes = a) (O : jz E x = v) (Q : jz E y = vs) (G : jM e enc k v l R) (L : Sl (Pl enc) k (hp W) vs m) (I : lP a l m = some r) (h : ∀ W' s R', ST dd F w W' μ (R' ++ Y) → jM e enc k s r R' → K s W') : mL P E ⟨d, .call ⟨.builtin .append, #[x, y], #[t, t]⟩, ty, pos, af, g⟩ W K :=
 IW [] b hk n h1 M J T q p j O Q G L I h
end
section
variable {dd : Bool}
variable {P : Program} {E : Nat → Value} {W : World} {d : Option Nat} {ty : TypeId} {pos : String} {af : Array Edge} {g : Option (Nat × Bool)}
 {F : Nat → Prop} {w : World} {μ : jN} {L : List (Nat × Obj)}
theorem La {K : Value → World → Prop} {α : Type} {e : TypeId} {enc : α → List Value} {k : Nat} {l : List α} {f : FuncId} {fv : Operand} {ax : Array Operand} {ats : Array TypeId} {caps : Array Value} {args : List Value} (Y : List (Nat × Obj)) (a : ST dd F w W μ Y) (i : jz E fv = .func (.func f) #[] caps) (he : ∀ args w, (callFunc f args).run P w = .ok (.enter f args) w) (ha : ax.map (jz E) ++ caps = args.toArray) (b : mH dd P f args W e enc k l) (h : ∀ W' v μ' R, ST dd F w W' μ' (R ++ Y) → jR μ μ' → Lo F w μ μ' → jM e enc k v l R → K v W') : mL P E ⟨d, .call ⟨.value fv, ax, ats⟩, ty, pos, af, g⟩ W K :=
 Ls [] Y a i he ha b h
end
section
variable {dd : Bool}
variable {P : Program} {E : Nat → Value} {W : World} {d : Option Nat} {ty : TypeId} {pos : String} {af : Array Edge} {g : Option (Nat × Bool)}
 {F : Nat → Prop} {w : World} {μ : jN} {L : List (Nat × Obj)} {α : Type} {e' : TypeId} {enc : α → List Value} {k : Nat} {v : Value} {l : List α} {R : List (Nat × Obj)}
theorem Cg {K : Value → World → Prop} {Y : List (Nat × Obj)} {t : TypeId} {x y : Operand} {p u : Value} {i : Nat} {x0 x1 : α} (a : ST dd F w W μ (R ++ Y)) (h : jM e' enc k v l R) (hk : ∀ x, (enc x).length = k) (h1 : ∀ x, ∀ u ∈ enc x, u.oneCell' = true) (n : jz E x = p) (q : jz E y = u) (hu : u.cells = (enc x1).toArray) (hp : Al R k p i) (m : l[i]? = some x0) (j : ∀ w, (sizeOf t).run P w = .ok k w) (b : ∀ W' R', ST dd F w W' μ (R' ++ Y) → jM e' enc k v (l.set i x1) R' → K undef W') : mL P E ⟨d, .store t x y, ty, pos, af, g⟩ W K :=
 Lw [] a h hk h1 n q hu hp m j b
end
section
variable {dd : Bool}
variable {P : Program} {E : Nat → Value} {W : World} {d : Option Nat} {ty : TypeId} {pos : String} {af : Array Edge} {g : Option (Nat × Bool)}
 {F : Nat → Prop} {w : World} {μ : jN} {L : List (Nat × Obj)} {α : Type} {e' : TypeId} {enc : α → List Value} {k : Nat} {v : Value} {l : List α} {R : List (Nat × Obj)}
theorem BI {K : Value → World → Prop} (z : α) {Y : List (Nat × Obj)} {t e : TypeId} {x : Operand} {u b : Value} {i : Nat} (a : ST dd F w W μ (R ++ Y)) (h : jM e' enc k v l R) (hk : ∀ x, (enc x).length = k) (h1 : ∀ x, ∀ u ∈ enc x, u.oneCell' = true) (n : P.underlying t = some (.slice e)) (q : ∀ w, (zeroValue e).run P w = .ok b w) (hu : zY k v i u) (m : b.cells = (enc z).toArray) (p : jz E x = u) (j : ∀ W' R', ST dd F w W' μ (R' ++ Y) → jM e' enc k v (oq l i z) R' → K (.tuple #[]) W') : mL P E ⟨d, .call ⟨.builtin .clear, #[x], #[t]⟩, ty, pos, af, g⟩ W K :=
 J1 z [] a h hk h1 n q hu m p j
end
section
variable {dd : Bool}
variable {κ γ : Type} {Q : Value → γ → List (Nat × Obj) → Prop} {beq : κ → κ → Bool} {kenc : κ → Value}
variable {P : Program} {W : World} {kt : TypeId} {E : Nat → Value} {d : Option Nat} {ty : TypeId} {pos : String} {af : Array Edge} {g : Option (Nat × Bool)} {F : Nat → Prop} {w : World} {μ : jN} {L : List (Nat × Obj)}
variable {κ2 β : Type} {kenc2 : κ2 → Value} {vf : β → Value} {beq2 : κ2 → κ2 → Bool} {kt2 : TypeId}
theorem L7 {i : Value → World → Prop} {Y R : List (Nat × Obj)} {t e : TypeId} {m x y : Operand} {n : Value} {b : List (κ × Value)} {l j : List (κ × List (κ2 × β))} {k : κ} {k2 : κ2} {v : β} (hk : ∀ {x y : κ}, beq x y = true → x = y) (K : pg P kt2 kenc2 beq2) (r : P.underlying t = some (.map kt2 e)) (a : ST dd F w W μ (R ++ Y)) (h : mu kenc (kZ kenc2 vf) n b l R) (hm : jz E m = qL beq b k (.map none)) (s : jz E x = kenc2 k2) (u : jz E y = vf v) (q : Fj beq beq2 l k k2 v = some j) (p : ∀ W' R', ST dd F w W' μ (R' ++ Y) → mu kenc (kZ kenc2 vf) n b j R' → i undef W') : mL P E ⟨d, .mapUpdate t m x y, ty, pos, af, g⟩ W i :=
 Nu [] hk K r a h hm s u q p
end
section
variable {dd : Bool}
variable {κ γ : Type} {Q : Value → γ → List (Nat × Obj) → Prop} {beq : κ → κ → Bool} {kenc : κ → Value}
variable {P : Program} {W : World} {kt : TypeId} {E : Nat → Value} {d : Option Nat} {ty : TypeId} {pos : String} {af : Array Edge} {g : Option (Nat × Bool)} {F : Nat → Prop} {w : World} {μ : jN} {L : List (Nat × Obj)}
variable {κ2 β : Type} {kenc2 : κ2 → Value} {vf : β → Value} {beq2 : κ2 → κ2 → Bool} {kt2 : TypeId}
theorem NA {i : Value → World → Prop} {Y R R2 : List (Nat × Obj)} {t e : TypeId} {m x y : Operand} {b : Value} {n : List (κ × Value)} {l j : List (κ × γ)} {k : κ} {u : Value} {z : γ} (K : pg P kt kenc beq) (s : P.underlying t = some (.map kt e)) (a : ST dd F w W μ (R ++ (R2 ++ Y))) (h : mu kenc Q b n l R) (hm : jz E m = b) (v : jz E x = kenc k) (G : jz E y = u) (r : Q u z R2) (q : FD beq l k z = some j) (p : ∀ W' R', ST dd F w W' μ (R' ++ Y) → mu kenc Q b (nL beq n k u) j R' → i undef W') : mL P E ⟨d, .mapUpdate t m x y, ty, pos, af, g⟩ W i :=
 Mx [] K s a h hm v G r q p
end
section
variable {dd : Bool}
variable {κ γ : Type} {Q : Value → γ → List (Nat × Obj) → Prop} {beq : κ → κ → Bool} {kenc : κ → Value}
variable {P : Program} {W : World} {kt : TypeId} {E : Nat → Value} {d : Option Nat} {ty : TypeId} {pos : String} {af : Array Edge} {g : Option (Nat × Bool)} {F : Nat → Prop} {w : World} {μ : jN} {L : List (Nat × Obj)}
theorem Qy {i : Value → World → Prop} {Y R R1 : List (Nat × Obj)} {t e : TypeId} {m x y : Operand} {b : Value} {j : List (κ × Value)} {l : List (κ × γ)} {k : κ} {u : Value} {z : γ} (K : pg P kt kenc beq) (q : P.underlying t = some (.map kt e)) (a : ST dd F w W μ (R ++ (R1 ++ Y))) (h : LU beq kenc Q b j l k R) (hm : jz E m = b) (r : jz E x = kenc k) (s : jz E y = u) (p : Q u z R1) (n : ∀ W' R', ST dd F w W' μ (R' ++ Y) → mu kenc Q b (nL beq j k u) (nL beq l k z) R' → i undef W') : mL P E ⟨d, .mapUpdate t m x y, ty, pos, af, g⟩ W i :=
 Rt [] K q a h hm r s p n
end
section
variable {dd : Bool}
variable {κ γ : Type} {Q : Value → γ → List (Nat × Obj) → Prop} {beq : κ → κ → Bool} {kenc : κ → Value}
variable {P : Program} {W : World} {kt : TypeId} {E : Nat → Value} {d : Option Nat} {ty : TypeId} {pos : String} {af : Array Edge} {g : Option (Nat × Bool)} {F : Nat → Prop} {w : World} {μ : jN} {L : List (Nat × Obj)}
theorem Lx {j : Value → World → Prop} {Y R : List (Nat × Obj)} {t e : TypeId} {m x : Operand} {i z : Value} {x0 : γ} {s : List (κ × Value)} {l : List (κ × γ)} {k : κ} (hk : ∀ {x y : κ}, beq x y = true ↔ x = y) (K : pg P kt kenc beq) (p : P.underlying t = some (.map kt e)) (r : ∀ w, (zeroValue e).run P w = .ok z w) (b : Q z x0 []) (a : ST dd F w W μ (R ++ Y)) (h : mu kenc Q i s l R) (hm : jz E m = i) (q : jz E x = kenc k) (n : ∀ W' v st R' R1, ST dd F w W' μ (R' ++ (R1 ++ Y)) → Q v ((kJ beq l k).getD x0) R1 → Ir beq kenc Q i l k st R' → j (.tuple #[v, .int .i64 (st : Nat)]) W') : mL P E ⟨d, .mapEntry t m x, ty, pos, af, g⟩ W j :=
 LF [] hk K p r b a h hm q n
end
section
variable {dd : Bool}
variable {κ γ : Type} {Q : Value → γ → List (Nat × Obj) → Prop} {beq : κ → κ → Bool} {kenc : κ → Value}
variable {P : Program} {W : World} {kt : TypeId} {E : Nat → Value} {d : Option Nat} {ty : TypeId} {pos : String} {af : Array Edge} {g : Option (Nat × Bool)} {F : Nat → Prop} {w : World} {μ : jN} {L : List (Nat × Obj)}
theorem JH {j : Value → World → Prop} {Y R R1 : List (Nat × Obj)} {t e : TypeId} {m s y : Operand} {i u : Value} {z : γ} {l : List (κ × γ)} {k : κ} {st : Nat} (hk : ∀ {x y : κ}, beq x y = true ↔ x = y) (K : pg P kt kenc beq) (a : ST dd F w W μ (R ++ (R1 ++ Y))) (h : Ir beq kenc Q i l k st R) (hm : jz E m = i) (q : jz E s = .int .i64 (st : Nat)) (r : jz E y = u) (p : Q u z R1) (n : ∀ W' b R', ST dd F w W' μ (R' ++ Y) → mu kenc Q i b (nL beq l k z) R' → j undef W') : mL P E ⟨d, .entryStore t m s y, ty, pos, af, g⟩ W j :=
 JI (e := e) [] hk K a h hm q r p n
end
section
variable {dd : Bool}
variable {α : Type} {e : TypeId} {enc : α → List Value} {k : Nat} {v : Value} {l : List α} {R : List (Nat × Obj)}
variable {P : Program} {W : World} {E : Nat → Value} {d : Option Nat} {ty : TypeId} {pos : String} {af : Array Edge} {g : Option (Nat × Bool)} {F : Nat → Prop} {w : World} {μ : jN} {L : List (Nat × Obj)}
theorem JZ {K : Value → World → Prop} {t : TypeId} {a : Nat} {z vs : Value} {m r : List α} {Y : List (Nat × Obj)} {x y : Operand} {i : TypeInfo} (b : ST dd F w W μ (R ++ Y)) (hk : ∀ x, (enc x).length = k) (n : 0 < k) (h1 : ∀ x, ∀ u ∈ enc x, u.oneCell' = true) (M : P.underlying t = some (.slice e)) (J : P.info? e = some i) (T : i.zero = some z) (q : z.cells.size = k) (p : i.size = k) (j : i.bytes = a) (O : jz E x = v) (Q : jz E y = vs) (G : pq e enc k v l R) (L : Sl (Pl enc) k (hp W) vs m) (I : lP a l m = some r) (h : ∀ W' s R', ST dd F w W' μ (R' ++ Y) → pq e enc k s r R' → K s W') : mL P E ⟨d, .call ⟨.builtin .append, #[x, y], #[t, t]⟩, ty, pos, af, g⟩ W K :=
 JX [] b hk n h1 M J T q p j O Q G L I h
end
section
variable {P : Program} {n : Nat} {Q : nr} {E : Nat → Value} {W : World} {ops : Array Oper} {rest : List Oper}
variable {dd : Bool} {α : Type} {enc : α → List Value} {k : Nat} {μ : jN} {v : Value}
variable {d : Option Nat} {ty : TypeId} {pos : String} {af : Array Edge} {g : Option (Nat × Bool)} {F : Nat → Prop} {w : World} {L : List (Nat × Obj)}
theorem IT {K : Value → World → Prop} {α : Type} {e t q : TypeId} {enc : α → List Value} {k a : Nat} {u : Value} {n : Int} {z : α} {r : List α} {Y : List (Nat × Obj)} {x y : Operand} {i : TypeInfo} (b : ST dd F w W μ Y) (hk : ∀ x, (enc x).length = k) (l : 0 < k) (J : P.underlying t = some (.slice e)) (p : P.underlying q = some (.int .i64)) (I : P.info? e = some i) (O : i.zero = some u) (m : i.size = k) (j : i.bytes = a) (G : u.cells = (enc z).toArray) (L : jz E x = .slice none 0 0) (M : jz E y = .int .i64 n) (v : GM a z n = some r) (h : ∀ W' s R', ST dd F w W' μ (R' ++ Y) → jM e enc k s r R' → K s W') : mL P E ⟨d, .call ⟨.builtin .append, #[x, y], #[t, q]⟩, ty, pos, af, g⟩ W K :=
 IJ [] b hk l J p I O m j G L M v h
end
end Go.Proofs.YtjjjihkifgdhgaaGreat
namespace Go.Proofs.YtjjjihkifgdhgaaGreat
open Go.RowKit
variable [M : Md]
section
variable {P : Program} {n : Nat} {Q : nr} {E : Nat → Value} {W : World} {ops : Array Oper} {rest : List Oper}
variable {d j t : Nat} {want : Bool} {v : Value} {ins : Go.Op} {ty : TypeId} {pos : String} {af : Array Edge} {A : Value → Prop}
theorem V (b : lD P E ⟨some d, ins, ty, pos, af, none⟩ W v W) (h : LW P n ops Q rest (nm E d v) W) (a : d < n := by decide) : LW P n ops Q (⟨some d, ins, ty, pos, af, none⟩ :: rest) E W := Hc (.inl rfl) rfl a b h
theorem VE (h : mL P E ⟨some d, ins, ty, pos, af, none⟩ W fun v W' => LW P n ops Q rest (nm E d v) W') (a : d < n := by decide) : LW P n ops Q (⟨some d, ins, ty, pos, af, none⟩ :: rest) E W := QF (.inl rfl) rfl a h
theorem VO (h : mL P E ⟨none, ins, ty, pos, af, none⟩ W fun _ W' => LW P n ops Q rest E W') : LW P n ops Q (⟨none, ins, ty, pos, af, none⟩ :: rest) E W := Sd (.inl rfl) rfl h
theorem VQ (b : ∃ p, A p ∧ ∀ W, lD P E ⟨some d, ins, ty, pos, af, none⟩ W p W) (h : ∀ p, A p → LW P n ops Q rest (nm E d p) W) (a : d < n := by decide) : LW P n ops Q (⟨some d, ins, ty, pos, af, none⟩ :: rest) E W := RJ (.inl rfl) rfl a b h
theorem Vg (b : (ops[j]?).bind (·.dst) = some t) (a : E t = .bool want) (i : lD P E ⟨some d, ins, ty, pos, af, some (j, want)⟩ W v W) (h : LW P n ops Q rest (nm E d v) W) (k : t < n := by decide) (g : d < n := by decide) : LW P n ops Q (⟨some d, ins, ty, pos, af, some (j, want)⟩ :: rest) E W := Hc (.inr ⟨j, want, t, rfl, b, k, a⟩) rfl g i h
theorem KP (b : (ops[j]?).bind (·.dst) = some t) (a : E t = .bool want) (h : mL P E ⟨some d, ins, ty, pos, af, some (j, want)⟩ W fun v W' => LW P n ops Q rest (nm E d v) W') (i : t < n := by decide) (g : d < n := by decide) : LW P n ops Q (⟨some d, ins, ty, pos, af, some (j, want)⟩ :: rest) E W := QF (.inr ⟨j, want, t, rfl, b, i, a⟩) rfl g h
theorem TF (b : (ops[j]?).bind (·.dst) = some t) (a : E t = .bool want) (i : ∃ p, A p ∧ ∀ W, lD P E ⟨some d, ins, ty, pos, af, some (j, want)⟩ W p W) (h : ∀ p, A p → LW P n ops Q rest (nm E d p) W) (k : t < n := by decide) (g : d < n := by decide) : LW P n ops Q (⟨some d, ins, ty, pos, af, some (j, want)⟩ :: rest) E W := RJ (.inr ⟨j, want, t, rfl, b, k, a⟩) rfl g i h
theorem Vn (b : (ops[j]?).bind (·.dst) = some t) (a : E t = .bool (!want)) (h : LW P n ops Q rest (nm E d undef) W) (i : t < n := by decide) (g : d < n := by decide) : LW P n ops Q (⟨some d, ins, ty, pos, af, some (j, want)⟩ :: rest) E W := RT rfl g rfl b i a h
theorem Vu (b : (ops[j]?).bind (·.dst) = some t) (a : E t = undef) (h : LW P n ops Q rest (nm E d undef) W) (i : t < n := by decide) (g : d < n := by decide) : LW P n ops Q (⟨some d, ins, ty, pos, af, some (j, want)⟩ :: rest) E W := QV rfl g rfl b i a h
end
section
variable {P : Program} {n : Nat} {Q : nr} {E : Nat → Value} {W : World} {ops : Array Oper} {S : Array Bool → World → Prop} {fuel : Nat} {listed : Array Bool} {μ : jN} {B : List (Nat × Obj)}
variable {d j t : Nat} {want : Bool} {v : Value} {ins : Go.Op} {ty : TypeId} {pos : String} {af : Array Edge} {A : Value → Prop}
theorem X (i : Nat) (b : ops[i]? = some ⟨some d, ins, ty, pos, af, none⟩) (a : S (listed.setIfInBounds i true) W) (j : ∀ {W}, lD P E ⟨some d, ins, ty, pos, af, none⟩ W v W) (h : PX P n ops Q S fuel (listed.setIfInBounds i true) (nm E d v) W) (hk : Bi ops listed i = true := by kernel_rfl) (hm : ∀ l w, S (l.setIfInBounds i true) w → S l w := by exact fun _ _ h => h) (g : d < n := by decide) : PX P n ops Q S (fuel + 1) listed E W := jZ i b hk (.inl rfl) rfl g hm a (fun _ _ _ _ => j) h
theorem XH (i : Nat) (b : ops[i]? = some ⟨some d, ins, ty, pos, af, none⟩) (a : nA μ B W) (j : ∀ W, nA μ B W → lD P E ⟨some d, ins, ty, pos, af, none⟩ W v W) (h : PX P n ops Q (fun _ W => nA μ B W) fuel (listed.setIfInBounds i true) (nm E d v) W) (hk : Bi ops listed i = true := by kernel_rfl) (g : d < n := by decide) : PX P n ops Q (fun _ W => nA μ B W) (fuel + 1) listed E W := jZ i b hk (.inl rfl) rfl g (fun _ _ h => h) a (fun _ W _ h => j W h) h
theorem XQ (i : Nat) (b : ops[i]? = some ⟨some d, ins, ty, pos, af, none⟩) (a : S (listed.setIfInBounds i true) W) (j : ∃ p, A p ∧ ∀ W, lD P E ⟨some d, ins, ty, pos, af, none⟩ W p W) (h : ∀ p, A p → PX P n ops Q S fuel (listed.setIfInBounds i true) (nm E d p) W) (hk : Bi ops listed i = true := by kernel_rfl) (hm : ∀ l w, S (l.setIfInBounds i true) w → S l w := by exact fun _ _ h => h) (g : d < n := by decide) : PX P n ops Q S (fuel + 1) listed E W := ua i b hk (.inl rfl) rfl g hm a j h
theorem XE (i : Nat) (a : ops[i]? = some ⟨some d, ins, ty, pos, af, none⟩) (h : mL P E ⟨some d, ins, ty, pos, af, none⟩ W fun v W' => S (listed.setIfInBounds i true) W' ∧ PX P n ops Q S fuel (listed.setIfInBounds i true) (nm E d v) W') (g : Region.ready .any ops listed = [i] := by kernel_rfl) (b : d < n := by decide) : PX P n ops Q S (fuel + 1) listed E W := QL i a g (.inl rfl) rfl b h
theorem XO (i : Nat) (a : ops[i]? = some ⟨none, ins, ty, pos, af, none⟩) (h : mL P E ⟨none, ins, ty, pos, af, none⟩ W fun _ W' => S (listed.setIfInBounds i true) W' ∧ PX P n ops Q S fuel (listed.setIfInBounds i true) E W') (b : Region.ready .any ops listed = [i] := by kernel_rfl) : PX P n ops Q S (fuel + 1) listed E W := RV i a b (.inl rfl) rfl h
theorem Xg (i : Nat) (g : ops[i]? = some ⟨some d, ins, ty, pos, af, some (j, want)⟩) (k : (ops[j]?).bind (·.dst) = some t) (a : E t = .bool want) (b : S (listed.setIfInBounds i true) W) (q : ∀ {W}, lD P E ⟨some d, ins, ty, pos, af, some (j, want)⟩ W v W) (h : PX P n ops Q S fuel (listed.setIfInBounds i true) (nm E d v) W) (hk : Bi ops listed i = true := by kernel_rfl) (hm : ∀ l w, S (l.setIfInBounds i true) w → S l w := by exact fun _ _ h => h) (p : t < n := by decide) (m : d < n := by decide) : PX P n ops Q S (fuel + 1) listed E W := jZ i g hk (.inr ⟨j, want, t, rfl, k, p, a⟩) rfl m hm b (fun _ _ _ _ => q) h
theorem uW (i : Nat) (g : ops[i]? = some ⟨some d, ins, ty, pos, af, some (j, want)⟩) (k : (ops[j]?).bind (·.dst) = some t) (a : E t = .bool want) (b : nA μ B W) (p : ∀ W, nA μ B W → lD P E ⟨some d, ins, ty, pos, af, some (j, want)⟩ W v W) (h : PX P n ops Q (fun _ W => nA μ B W) fuel (listed.setIfInBounds i true) (nm E d v) W) (hk : Bi ops listed i = true := by kernel_rfl) (m : t < n := by decide) (l : d < n := by decide) : PX P n ops Q (fun _ W => nA μ B W) (fuel + 1) listed E W := jZ i g hk (.inr ⟨j, want, t, rfl, k, m, a⟩) rfl l (fun _ _ h => h) b (fun _ W _ h => p W h) h
theorem HS (i : Nat) (b : ops[i]? = some ⟨some d, ins, ty, pos, af, some (j, want)⟩) (g : (ops[j]?).bind (·.dst) = some t) (a : E t = .bool want) (h : mL P E ⟨some d, ins, ty, pos, af, some (j, want)⟩ W fun v W' => S (listed.setIfInBounds i true) W' ∧ PX P n ops Q S fuel (listed.setIfInBounds i true) (nm E d v) W') (l : Region.ready .any ops listed = [i] := by kernel_rfl) (m : t < n := by decide) (k : d < n := by decide) : PX P n ops Q S (fuel + 1) listed E W := QL i b l (.inr ⟨j, want, t, rfl, g, m, a⟩) rfl k h
theorem Xn (i : Nat) (g : ops[i]? = some ⟨some d, ins, ty, pos, af, some (j, want)⟩) (k : (ops[j]?).bind (·.dst) = some t) (a : E t = .bool (!want)) (b : S (listed.setIfInBounds i true) W) (h : PX P n ops Q S fuel (listed.setIfInBounds i true) (nm E d undef) W) (hk : Bi ops listed i = true := by kernel_rfl) (hm : ∀ l w, S (l.setIfInBounds i true) w → S l w := by exact fun _ _ h => h) (p : t < n := by decide) (m : d < n := by decide) : PX P n ops Q S (fuel + 1) listed E W := Sm i g hk rfl k p a rfl m hm b h
theorem Xu (i : Nat) (g : ops[i]? = some ⟨some d, ins, ty, pos, af, some (j, want)⟩) (k : (ops[j]?).bind (·.dst) = some t) (a : E t = undef) (b : S (listed.setIfInBounds i true) W) (h : PX P n ops Q S fuel (listed.setIfInBounds i true) (nm E d undef) W) (hk : Bi ops listed i = true := by kernel_rfl) (hm : ∀ l w, S (l.setIfInBounds i true) w → S l w := by exact fun _ _ h => h) (p : t < n := by decide) (m : d < n := by decide) : PX P n ops Q S (fuel + 1) listed E W := QE i g hk rfl k p a rfl m hm b h
end
end Go.Proofs.YtjjjihkifgdhgaaGreat
namespace Go.Proofs.YtjjjihkifgdhgaaGreat
open Go.RowKit
section
variable {α β γ : Type}
inductive pd (Q : α → β → Prop) : List α → List β → Prop
 | nil : pd Q [] []
 | cons {a : α} {b : β} {l : List α} {m : List β} : Q a b → pd Q l m → pd Q (a :: l) (b :: m)
namespace pd
variable {Q Q' : α → β → Prop}
theorem length {l : List α} {m : List β} (h : pd Q l m) : l.length = m.length := by
 induction h with
 | nil => rfl
 | cons _ _ ih => simp [ih]
theorem imp {l : List α} {m : List β} (h : pd Q l m) (d : ∀ a b, Q a b → Q' a b) : pd Q' l m := by
 induction h with
 | nil => exact .nil
 | cons h1 _ ih => exact .cons (d _ _ h1) ih
theorem get {l : List α} {m : List β} (h : pd Q l m) : ∀ {i : Nat} {b : β}, m[i]? = some b → ∃ a, l[i]? = some a ∧ Q a b := by
 induction h with
 | nil => intro i b d; simp at d
 | cons h1 _ ih =>
  intro i b d
  cases i with
  | zero => simp at d; subst d; exact ⟨_, rfl, h1⟩
  | succ i => simpa using ih (by simpa using d)
theorem append {l a : List α} {m b : List β} (h : pd Q l m) (d : pd Q a b) : pd Q (l ++ a) (m ++ b) := by
 induction h with
 | nil => exact d
 | cons h1 _ ih => exact .cons h1 ih
theorem set {l : List α} {m : List β} (h : pd Q l m) {a : α} {b : β} (g : Q a b) : ∀ i : Nat, pd Q (l.set i a) (m.set i b) := by
 induction h with
 | nil => intro i; exact .nil
 | cons h1 d ih =>
  intro i
  cases i with
  | zero => exact .cons g d
  | succ i => exact .cons h1 (ih i)
theorem take {l : List α} {m : List β} (h : pd Q l m) : ∀ i : Nat, pd Q (l.take i) (m.take i) := by
 induction h with
 | nil => intro i; simp; exact .nil
 | cons h1 _ ih =>
  intro i
  cases i with
  | zero => exact .nil
  | succ i => exact .cons h1 (ih i)
theorem drop {l : List α} {m : List β} (h : pd Q l m) : ∀ i : Nat, pd Q (l.drop i) (m.drop i) := by
 induction h with
 | nil => intro i; simp; exact .nil
 | cons h1 a ih =>
  intro i
  cases i with
  | zero => exact .cons h1 a
  | succ i => exact ih i
end pd
theorem BC {P : Nat → β → α → Prop} : ∀ {m : List β} (o : Nat), (∀ (i : Nat) (b : β), m[i]? = some b → ∃ a, P (o + i) b a) → ∃ l : List α, l.length = m.length ∧ ∀ (i : Nat) (b : β), m[i]? = some b → ∃ a, l[i]? = some a ∧ P (o + i) b a
 | [], _, _ => ⟨[], rfl, fun i b h => by simp at h⟩
 | b :: m, o, h => by
  obtain ⟨a, ha⟩ := h 0 b rfl
  obtain ⟨l, h1, g⟩ := BC (m := m) (o + 1) (fun i b j => by
   obtain ⟨a, ha⟩ := h (i + 1) b (by simpa using j)
   exact ⟨a, by rw [show o + 1 + i = o + (i + 1) by omega]; exact ha⟩)
  refine ⟨a :: l, by simp [h1], fun i c d => ?_⟩
  cases i with
  | zero => simp at d; subst d; exact ⟨a, rfl, ha⟩
  | succ i =>
   obtain ⟨x, k, hp⟩ := g i c (by simpa using d)
   exact ⟨x, by simpa using k, by rw [show o + (i + 1) = o + 1 + i by omega]; exact hp⟩
theorem pd.Nw {Q : α → β → Prop} : ∀ {l : List α} {m : List β}, l.length = m.length → (∀ (i : Nat) (a : α) (b : β), l[i]? = some a → m[i]? = some b → Q a b) → pd Q l m
 | [], [], _, _ => .nil
 | [], _ :: _, h, _ => by cases h
 | _ :: _, [], h, _ => by cases h
 | a :: l, b :: m, h, d => .cons (d 0 a b rfl rfl) (pd.Nw (by simpa using h) (fun i x y g j => d (i + 1) x y (by simpa using g) (by simpa using j)))
end
structure Deep {β : Type} (R : pA β) (k : Nat) : Prop where
 mono : FX R
 len : ∀ {μ ys x}, R μ ys x → ys.length = k
 one : ∀ {μ ys x}, R μ ys x → ∀ u ∈ ys, u.oneCell' = true
abbrev wj (k : Nat) := {ys : List Value // ys.length = k ∧ ∀ u ∈ ys, u.oneCell' = true}
def uK {k : Nat} (c : wj k) : List Value := c.1
theorem yx {k : Nat} (x : wj k) : (uK x).length = k := x.2.1
theorem N1 {k : Nat} (x : wj k) : ∀ u ∈ uK x, u.oneCell' = true := x.2.2
theorem Sl.xX {α : Type} {R : pA α} {k : Nat} {μ : jN} {v : Value} {l : List α} (h : Sl R k μ v l) : v.oneCell' = true := by
 obtain ⟨A, c, rfl, _⟩ := h; rfl
section
variable {β : Type} {Rl : pA β} {k : Nat} {μ μ' : jN} {v : Value} {l : List β}
def Deep.cell (a : Deep Rl k) {ys : List Value} {x : β} (h : Rl μ ys x) : wj k := ⟨ys, a.len h, a.one h⟩
theorem Sl.raw (z : Deep Rl k) (h : Sl Rl k μ v l) : ∃ cl : List (wj k), Sl (Pl uK) k μ v cl ∧ pd (fun c x => Rl μ c.1 x) cl l := by
 obtain ⟨A, c, rfl, h1, s, u⟩ := h
 cases l with
 | nil => exact ⟨[], ⟨A, c, rfl, h1, s, fun h => absurd h (by simp)⟩, .nil⟩
 | cons x0 l =>
  obtain ⟨b, off, cs, T, fr, rfl, E, w⟩ := u (by simp)
  obtain ⟨cl, p, r⟩ := BC (P := fun i x (c : wj k) => Rl μ c.1 x ∧ ∀ j y, c.1[j]? = some y → cs[off + i * k + j]? = some y) (m := x0 :: l) 0 (fun i x q => by
   obtain ⟨ys, _, d, g⟩ := w i x q
   exact ⟨z.cell d, d, by rw [dX]; exact g⟩)
  refine ⟨cl, ⟨_, c, by rw [p], by omega, s, fun _ => ⟨b, off, cs, T, fr, rfl, E, fun i c n => ?_⟩⟩, pd.Nw p (fun i c x n q => ?_)⟩
  ·have G : i < (x0 :: l).length := by rw [← p]; exact (bJ.1 n).1
   obtain ⟨t, a, _, g⟩ := r i _ (cU G)
   rw [n] at a; cases a
   exact ⟨c.1, c.2.1, rfl, by rw [dX] at g; exact g⟩
  ·obtain ⟨t, a, d, _⟩ := r i x q
   rw [n] at a; cases a
   exact d
theorem Sl.MJ {cl : List (wj k)} (h : Sl (Pl uK) k μ v cl) (t : jR μ μ') (ha : pd (fun c x => Rl μ' c.1 x) cl l) : Sl Rl k μ' v l := by
 obtain ⟨A, c, rfl, h1, m, n⟩ := h
 have a := ha.length
 refine ⟨A, c, by rw [a], by omega, m, fun w => ?_⟩
 obtain ⟨b, off, cs, T, fr, rfl, q, p⟩ := n (by omega)
 refine ⟨b, off, cs, T, fr, rfl, t _ _ q, fun i x u => ?_⟩
 obtain ⟨c, r, s⟩ := ha.get u
 obtain ⟨ys, d, g, j⟩ := p i c r
 cases g
 exact ⟨uK c, d, s, j⟩
def Bj (Rl : pA β) (k : Nat) (μ : jN) (W : World) (v : Value) (l : List β) : Prop := ∃ cl : List (wj k), Sl (Pl uK) k (hp W) v cl ∧ pd (fun c x => Rl μ c.1 x) cl l
theorem Bj.sl (b : Deep Rl k) {W : World} (h : Sl Rl k μ v l) (d : jR μ (hp W)) : Bj Rl k μ W v l := by
 obtain ⟨cl, h1, a⟩ := h.raw b
 exact ⟨cl, h1.mono (Pl.mono _) d, a⟩
theorem Sl.N2 {b m : Nat} {cl : List (wj k)} {cs : Array Value} {e : TypeId} (hm : cl.length = m) (a : m ≤ maxLen) (g : cs.toList = (cl.map uK).flatten) (d : μ b = some (.cells cs e (0, 0))) : Sl (Pl uK) k μ (.slice (some ⟨b, 0, none⟩) m m) cl := by
 subst hm
 refine ⟨_, _, rfl, aU _, a, fun _ => ⟨b, 0, _, _, _, rfl, d, fun i x h => ⟨uK x, yx x, rfl, fun j y l => ?_⟩⟩⟩
 have := vV yx cl i x h j y l
 rw [← g] at this
 simpa using this
inductive Cj (Rl : pA β) (k : Nat) (μ : jN) : List Value → List β → Prop
 | nil : Cj Rl k μ [] []
 | cons {ys zs : List Value} {x : β} {l : List β} : Rl μ ys x → Cj Rl k μ zs l → Cj Rl k μ (ys ++ zs) (x :: l)
theorem Cj.cells (b : Deep Rl k) {ys : List Value} (h : Cj Rl k μ ys l) : ∃ cl : List (wj k), (cl.map uK).flatten = ys ∧ pd (fun c x => Rl μ c.1 x) cl l := by
 induction h with
 | nil => exact ⟨[], rfl, .nil⟩
 | cons h1 _ ih =>
  obtain ⟨cl, e, a⟩ := ih
  exact ⟨b.cell h1 :: cl, by rw [bD, bO, e]; rfl, .cons h1 a⟩
theorem Bj.lit (g : Deep Rl k) {W : World} {b m : Nat} {ys : List Value} {e : TypeId} (h : Cj Rl k μ ys l) (hm : l.length = m) (i : m ≤ maxLen) (j : W.heap[b]? = some (.cells ys.toArray e (0, 0))) : Bj Rl k μ W (.slice (some ⟨b, 0, none⟩) m m) l := by
 obtain ⟨cl, d, a⟩ := h.cells g
 exact ⟨cl, Sl.N2 (by rw [a.length]; exact hm) i d.symm j, a⟩
theorem Sl.imp {R R' : pA β} (h : Sl R k μ v l) (q : ∀ ys x, R μ ys x → R' μ ys x) : Sl R' k μ v l := by
 obtain ⟨A, c, rfl, h1, a, d⟩ := h
 refine ⟨A, c, rfl, h1, a, fun r => ?_⟩
 obtain ⟨b, off, cs, T, fr, rfl, p, g⟩ := d r
 exact ⟨b, off, cs, T, fr, rfl, p, fun i x s => let ⟨ys, j, m, n⟩ := g i x s; ⟨ys, j, q _ _ m, n⟩⟩
theorem Ek : ∀ (l : List Nat) (n : Nat), n ∈ l → n ≤ l.foldr max 0
 | [], n, h => by cases h
 | a :: l, n, h => by
  rcases aK.1 h with rfl | h
  ·exact Nat.le_max_left _ _
  ·exact dz (Ek l n h) (Nat.le_max_right _ _)
theorem Sl.Sp {R : pA β} {a : Nat → pA β} (h : Sl R k μ v l) (E : ∀ ys x, R μ ys x → ∃ n, a n μ ys x) (up : ∀ n m ys x, n ≤ m → a n μ ys x → a m μ ys x) : ∃ n, Sl (a n) k μ v l := by
 obtain ⟨A, c, rfl, h1, s, w⟩ := h
 by_cases t : 0 < l.length
 ·obtain ⟨b, off, cs, T, fr, rfl, G, z⟩ := w t
  obtain ⟨J, L, u⟩ := BC (P := fun i x (p : Nat × List Value) => p.2.length = k ∧ a p.1 μ p.2 x ∧ ∀ j y, p.2[j]? = some y → cs[off + i * k + j]? = some y) (m := l) 0 (fun i x r => by
   obtain ⟨ys, g, q, d⟩ := z i x r
   obtain ⟨n, I⟩ := E _ _ q
   exact ⟨(n, ys), g, I, by rw [dX]; exact d⟩)
  refine ⟨(J.map (·.1)).foldr max 0, _, c, rfl, h1, s, fun _ => ⟨b, off, cs, T, fr, rfl, G, fun i x r => ?_⟩⟩
  obtain ⟨p, hp, g, q, d⟩ := u i x r
  exact ⟨p.2, g, up _ _ _ _ (Ek _ _ (bF.2 ⟨p, cV hp, rfl⟩)) q, by rw [dX] at d; exact d⟩
 ·exact ⟨0, A, c, rfl, h1, s, fun h => absurd h t⟩
def kw (e : TypeId) (Rl : pA β) (k : Nat) (μ : jN) (v : Value) (l : List β) (B : List (Nat × Obj)) : Prop := ∃ cl : List (wj k), jM e uK k v cl B ∧ pd (fun c x => Rl μ c.1 x) cl l
variable {e : TypeId} {B : List (Nat × Obj)}
theorem kw.mono (b : Deep Rl k) (h : kw e Rl k μ v l B) (d : jR μ μ') : kw e Rl k μ' v l B := by
 obtain ⟨cl, h1, a⟩ := h
 exact ⟨cl, h1, a.imp (fun _ _ h => b.mono _ _ _ _ d h)⟩
theorem kw.nil (e : TypeId) (Rl : pA β) (k : Nat) (μ : jN) : kw e Rl k μ (.slice none 0 0) [] [] := ⟨[], jM.nil _ _ _, .nil⟩
theorem kw.lit (g : Deep Rl k) {b m : Nat} {ys : List Value} (h : Cj Rl k μ ys l) (hm : l.length = m) (i : m ≤ maxLen) (j : ys.length = m * k) : kw e Rl k μ (.slice (some ⟨b, 0, none⟩) m m) l [(b, .cells ys.toArray e (0, 0))] := by
 obtain ⟨cl, d, a⟩ := h.cells g
 exact ⟨cl, jM.lit (by rw [a.length]; exact hm) i d.symm (by simpa using j), a⟩
theorem kw.form (h : kw e Rl k μ v l B) : ∃ A c, v = .slice A l.length c := by
 obtain ⟨cl, h1, a⟩ := h
 rw [← a.length]; exact h1.form
theorem kw.len (h : kw e Rl k μ v l B) : l.length ≤ 9223372036854775807 := by
 obtain ⟨cl, h1, a⟩ := h
 rw [← a.length]; exact h1.len
theorem kw.nd (h : kw e Rl k μ v l B) : (B.map (·.1)).Nodup := let ⟨_, h1, _⟩ := h; h1.nd
theorem kw.isNil {n c : Nat} (h : kw e Rl k μ (.slice none n c) l B) : l = [] := by
 obtain ⟨cl, h1, a⟩ := h
 have := a.length
 rw [h1.isNil] at this
 exact aR this.symm
theorem kw.sl (h : kw e Rl k μ v l B) (d : Deep Rl k) (g : jR μ μ') (hm : ∀ b o, (b, o) ∈ B → μ' b = some o) : Sl Rl k μ' v l := by
 obtain ⟨cl, h1, a⟩ := h
 exact Sl.MJ (h1.sl yx hm) (jR.refl _) (a.imp (fun _ _ h => d.mono _ _ _ _ g h))
end
section
variable {β : Type} {Rl : pA β} {k : Nat} {μ : jN} {v : Value} {l : List β} {e : TypeId} {B : List (Nat × Obj)}
variable {dd : Bool} {F : Nat → Prop} {w W : World} {L : List (Nat × Obj)}
theorem kw.SI (h : kw e Rl k μ v l B) (b : Deep Rl k) (a : ST dd F w W μ L) (d : ∀ p, p ∈ B → p ∈ L) : Sl Rl k (hp W) v l := h.sl b a.jy (fun _ _ g => a.at_ (d _ g))
theorem Bj.row (h : kw e Rl k μ v l B) (a : ST dd F w W μ L) (d : ∀ p, p ∈ B → p ∈ L) : Bj Rl k μ W v l := let ⟨cl, h1, b⟩ := h; ⟨cl, h1.SI yx a d, b⟩
theorem kw.OS (h : kw e Rl k μ v l B) (a : ST dd kK w W μ L) (b : ∀ p, p ∈ B → p ∈ L) : Fr w.heap.size v := let ⟨_, h1, _⟩ := h; h1.OS a b
theorem ST.xZ {Y : List (Nat × Obj)} (g : Deep Rl k) (a : ST dd F w W μ (B ++ Y)) (h : kw e Rl k μ v l B) : ∃ μ', ST dd F w W μ' Y ∧ jR μ μ' ∧ Lo F w μ μ' ∧ Sl Rl k μ' v l := by
 obtain ⟨cl, h1, d⟩ := h
 obtain ⟨μ', b, a2, a4, a3⟩ := ST.Fi a h1 yx
 exact ⟨μ', b, a2, a4, Sl.MJ a3 (jR.refl _) (d.imp (fun _ _ h => g.mono _ _ _ _ a2 h))⟩
variable {P : Program} {E : Nat → Value} {d : Option Nat} {ty : TypeId} {pos : String} {af : Array Edge} {g : Option (Nat × Bool)}
theorem nh {t e' : TypeId} {x a : Operand} {z : IntKind} {i : Int} {x0 : β} {A : List Value → Prop} (r : ∀ {ys}, Rl μ ys x0 → A ys) (u : P.underlying t = some (.slice e')) (he : ∀ w, (sizeOf e').run P w = .ok k w) (y : jz E x = v) (n : jz E a = .int z i) (s : Sl Rl k μ v l) (b : 0 ≤ i) (q : l[i.toNat]? = some x0) :
  ∃ p, (∃ ys, A ys ∧ At μ p ys) ∧ ∀ W, lD P E ⟨d, .indexAddr t x a, ty, pos, af, g⟩ W p W := by
 obtain ⟨p, ys, _, h, j, m⟩ := Hi (d := d) (ty := ty) (pos := pos) (af := af) (g := g) u he y n s b q
 exact ⟨p, ⟨ys, r h, j⟩, m⟩
theorem xF {x : Operand} {t e' : TypeId} (a : P.underlying t = some (.slice e')) (b : jz E x = v) (h : kw e Rl k μ v l B) : lD P E ⟨d, .call ⟨.builtin .len, #[x], #[t]⟩, ty, pos, af, g⟩ W (.int .i64 l.length) W := by
 obtain ⟨A, c, rfl⟩ := h.form
 exact yM a b
theorem kW {t e' : TypeId} {x j : Operand} {I : IntKind} {i : Int} {x0 : β} {A : List Value → Prop} (u : ∀ {ys}, Rl μ ys x0 → A ys) (z : P.underlying t = some (.slice e')) (he : ∀ w, (sizeOf e').run P w = .ok k w) (G : jz E x = v) (r : jz E j = .int I i) (h : kw e Rl k μ v l B) (m : 0 ≤ i) (s : l[i.toNat]? = some x0) :
  ∃ p, (∃ ys, A ys ∧ At (BE B) p ys ∧ Al B k p i.toNat) ∧ ∀ W, lD P E ⟨d, .indexAddr t x j, ty, pos, af, g⟩ W p W := by
 obtain ⟨cl, h1, n⟩ := h
 obtain ⟨c, b, y⟩ := n.get s
 obtain ⟨p, a, q⟩ := rr (d := d) (ty := ty) (pos := pos) (af := af) (g := g) z he G r h1 m b
 exact ⟨p, ⟨c.1, u y, a.at h1 yx b, a⟩, q⟩
theorem Oj {α g : Type} {a : Nat} {l m r : List α} {b d : List g} (h : lP a l m = some r) (h1 : b.length = l.length) (i : d.length = m.length) : lP a b d = some (b ++ d) ∧ r = l ++ m := by
 unfold lP at h ⊢
 rw [h1, i]
 split at h
 ·rename_i j; cases h; rw [aZ j]; exact ⟨rfl, rfl⟩
 ·cases h
theorem vT {K : Value → World → Prop} {t : TypeId} {a : Nat} {z vs : Value} {m r : List β} {Y : List (Nat × Obj)} {x y : Operand} {i : TypeInfo} (hD : Deep Rl k) (j : ST dd F w W μ (B ++ Y)) (q : 0 < k) (T : P.underlying t = some (.slice e)) (Q : P.info? e = some i) (hz : i.zero = some z) (u : z.cells.size = k) (s : i.size = k) (p : i.bytes = a) (U : jz E x = v) (Z : jz E y = vs) (M : kw e Rl k μ v l B) (R : Bj Rl k μ W vs m) (O : lP a l m = some r) (h : ∀ W' b R', ST dd F w W' μ (R' ++ Y) → kw e Rl k μ b r R' → K b W') : mL P E ⟨d, .call ⟨.builtin .append, #[x, y], #[t, t]⟩, ty, pos, af, g⟩ W K := by
 obtain ⟨cl, h1, G⟩ := M
 obtain ⟨cm, L, I⟩ := R
 obtain ⟨n, rfl⟩ := Oj O G.length I.length
 exact oC j yx q N1 T Q hz u s p U Z h1 L n (fun W' b R' J a2 => h W' b R' J ⟨_, a2, G.append I⟩)
theorem qi {K : Value → World → Prop} {Y : List (Nat × Obj)} {t : TypeId} {x y : Operand} {p : Value} {i : Nat} {x0 x1 : β} {ys : List Value} (n : Deep Rl k) (a : ST dd F w W μ (B ++ Y)) (h : kw e Rl k μ v l B) (z : jz E x = p) (G : jz E y = .agg ys.toArray) (j : Rl μ ys x1) (hp : Al B k p i) (u : l[i]? = some x0) (r : ∀ w, (sizeOf t).run P w = .ok k w) (q : ∀ W' R', ST dd F w W' μ (R' ++ Y) → kw e Rl k μ v (l.set i x1) R' → K undef W') : mL P E ⟨d, .store t x y, ty, pos, af, g⟩ W K := by
 obtain ⟨cl, h1, b⟩ := h
 obtain ⟨c, s, _⟩ := b.get u
 exact Cg (x1 := n.cell j) a h1 yx N1 z G rfl hp s r (fun W' R' m a2 => q W' R' m ⟨_, a2, b.set j i⟩)
end
end Go.Proofs.YtjjjihkifgdhgaaGreat
namespace Go.Proofs.YtjjjihkifgdhgaaGreat
open Go.RowKit
def lZ (dd : Bool) (P : Program) (f : FuncId) (args : List Value) (w : World) (μ0 : jN) (L0 : List (Nat × Obj)) (K : Value → List (Nat × Obj) → jN → Prop) : Prop :=
 Calls P f args.toArray w fun e a => ∃ v L1 μ1, e = .returned v ∧ qK dd L0 L1 w a ∧ jR μ0 μ1 ∧ Lo (keys L0) w μ0 μ1 ∧ jR μ1 (pB a L1) ∧ K v L1 μ1
theorem lZ.lR {dd : Bool} {P : Program} {f : FuncId} {args : List Value} {w : World} {μ0 : jN} {L0 : List (Nat × Obj)} {K : Value → List (Nat × Obj) → jN → Prop} (h : lZ true P f args w μ0 L0 K) : lZ dd P f args w μ0 L0 K :=
 cT h fun _ _ ⟨v, L1, μ1, h1, a, b⟩ => ⟨v, L1, μ1, h1, a.lR, b⟩
section
variable {dd : Bool} {F : Nat → Prop} {w W W' : World} {μ μ1 : jN} {L L0 L1 L2 : List (Nat × Obj)}
theorem ST.RK (h : ST dd F w W μ (L0 ++ L)) (i : qK dd L0 L1 W W') (j : Lo (keys L0) W μ μ1) (g : jR μ1 (pB W' L1)) : ST dd F w W' μ1 (L1 ++ L) := by
 have h1 := h.back i
 refine ⟨h1.os, h1.tape, h1.output, h1.drawn, h1.size, h1.lO, fun b o hm => ?_, fun b o a => ?_, h1.nd⟩
 ·have := g b o hm
  unfold pB at this
  split at this
  ·cases this
  ·exact this
 ·obtain ⟨k, m, l⟩ := h1.box b o a
  refine ⟨k, ?_, l⟩
  rcases aN.1 a with a | a
  ·cases hm : μ1 b with
   | none => rfl
   | some x =>
    have := g b x hm
    unfold pB at this
    rw [aZ ⟨o, a⟩] at this
    cases this
  ·have d := h.box b o (dt _ a)
   rw [j b (na d.1) (Ew h.nd a)]
   exact d.2.1
variable {P : Program} {E : Nat → Value} {d : Option Nat} {ty : TypeId} {pos : String} {af : Array Edge} {g : Option (Nat × Bool)}
theorem OH {K : Value → World → Prop} {K' : Value → List (Nat × Obj) → jN → Prop} {f : FuncId} {fv : Operand} {ax : Array Operand} {ats : Array TypeId} {caps : Array Value} {args : List Value} (L0 L2 : List (Nat × Obj)) (a : ST dd F w W μ L) (i : L.Perm (L0 ++ L2)) (u : jz E fv = .func (.func f) #[] caps) (he : ∀ args w, (callFunc f args).run P w = .ok (.enter f args) w) (ha : ax.map (jz E) ++ (#[] : Array Value) = args.toArray) (t : zz L0 W → (L0.map (·.1)).Nodup → jR μ (pB W L0) → (∀ b o, (b, o) ∈ L2 → pB W L0 b = some o) → lZ dd P f (args ++ caps.toList) W μ L0 K') (h : ∀ W' v μ' L1, ST dd F w W' μ' (L1 ++ L2) → jR μ μ' → Lo F w μ μ' → K' v L1 μ' → K v W') : mL P E ⟨d, .call ⟨.value fv, ax, ats⟩, ty, pos, af, g⟩ W K := by
 have j : ax.map (jz E) = args.toArray := by simpa using ha
 refine Ev (args := (args ++ caps.toList).toArray) u he (by rw [j]; simp) (cT (t (a.held i) (a.Lt i) (a.Jx i) (a.Hl i)) (fun _ W' ⟨v, L1, μ1, h1, l, m, k, n, p⟩ => ⟨v, h1, h W' v μ1 L1 ((a.perm i).RK l k n) m (fun b s r => k b (dS s a.size) (fun ⟨o, x⟩ => by
  rcases ((a.perm i).box b o (cD _ x)).2.2 with q | q
  ·omega
  ·exact r q)) p⟩))
end
section
variable {P : Program} {E : Nat → Value} {W : World} {d : Option Nat} {ty : TypeId} {pos : String} {af : Array Edge} {g : Option (Nat × Bool)}
 {dd : Bool} {F : Nat → Prop} {w : World} {μ : jN} {L : List (Nat × Obj)}
def Eh {α : Type} (a : Nat) (z : α) (n : Int) : Option (List α) := if 0 ≤ n ∧ (a : Int) * n ≤ 140737488355328 ∧ n ≤ (maxLen : Int) then some (List.replicate n.toNat z) else none
theorem Hk {α : Type} {enc : α → List Value} {k : Nat} (hk : ∀ x, (enc x).length = k) (a : 0 < k) (z : α) (n : Nat) : (madeCells (enc z).toArray (n * k)).toList = ((List.replicate n z).map enc).flatten := by
 apply List.ext_getElem
 ·rw [pJ hk, cZ, size_madeCells]; simp
 ·intro i h1 h
  rw [cZ, size_madeCells] at h1
  have j : i / k < n := by rw [gD a]; exact h1
  have d : i % k < (enc z).length := by rw [hk]; exact Nat.mod_lt _ a
  have b := vV hk (List.replicate n z) (i / k) z (by rw [List.getElem?_replicate, aZ j]) (i % k) _ (cU d)
  rw [show i / k * k + i % k = i by rw [Nat.mul_comm]; exact Nat.div_add_mod i k] at b
  rw [cU h] at b
  have g := jb b
  rw [g]
  simp only [madeCells, Array.getElem_toList, Array.getElem_map, Array.getElem_range, dx, hk]
  rw [getElem!_pos _ _ (by simpa using d)]
  simp
theorem JQ {K : Value → World → Prop} {α : Type} {e t : TypeId} {enc : α → List Value} {k a : Nat} {b : Value} {n : Int} {l : IntKind} {z : α} {r : List α} {x y : Operand} {i : TypeInfo} (m : ST dd F w W μ L) (hk : ∀ x, (enc x).length = k) (s : 0 < k) (R : P.underlying t = some (.slice e)) (O : P.info? e = some i) (Y : i.zero = some b) (u : i.size = k) (q : i.bytes = a) (M : b.cells = (enc z).toArray) (T : jz E x = .int l n) (U : jz E y = .int l n) (j : Eh a z n = some r) (h : ∀ W' v R', ST dd F w W' μ (R' ++ L) → jM e enc k v r R' → K v W') : mL P E ⟨d, .makeSlice t x y, ty, pos, af, g⟩ W K := by
 unfold Eh at j
 split at j
 case isFalse => cases j
 rename_i p
 cases j
 obtain ⟨G, h1, I⟩ := p
 subst u; subst q
 have J : n.toNat ≤ maxLen := by omega
 have Q := run_make (P := P) W t e i b R O Y l l n n G (Int.le_refl _) (by omega) (by simp only [maxLen] at I; omega)
 refine .inl ⟨.slice (some ⟨W.heap.size, 0, none⟩) n.toNat n.toNat, W.alloc (.cells (madeCells b.cells (n.toNat * i.size)) e), ?_, h _ _ [(W.heap.size, .cells (madeCells b.cells (n.toNat * i.size)) e)] (m.alloc _) ?_⟩
 ·show (do pure (.value (← Instr.makeSlice t (jz E x) (jz E y))) : Sem Next).run P W = _
  rw [T, U]
  simp only [bY, Q, bK, cX]
 ·exact jM.lit (by rw [gF]) J (by rw [M]; exact Hk hk s z _) (by rw [size_madeCells])
end
theorem ou.xX {κ γ : Type} {kenc : κ → Value} {Q : Value → γ → List (Nat × Obj) → Prop} {μ : jN} {v : Value} {l : List (κ × γ)} (h : ou kenc Q μ v l) : v.oneCell' = true := by
 obtain ⟨a, R, h, _⟩ := h
 obtain ⟨m, rfl⟩ := h.form
 rfl
theorem uj.xX {κ β : Type} {kenc : κ → Value} {vf : β → Value} {μ : jN} {v : Value} {l : List (κ × β)} (h : uj kenc vf μ v l) : v.oneCell' = true := by
 obtain ⟨m, rfl⟩ := h.form
 rfl
end Go.Proofs.YtjjjihkifgdhgaaGreat
