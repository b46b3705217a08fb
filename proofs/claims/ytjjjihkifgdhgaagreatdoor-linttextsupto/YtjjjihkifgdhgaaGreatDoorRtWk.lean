/- a part of a proof of LintTexts -/
import Derived.WalkKit
import Derived.WalkLawsBesides
import Derived.TacticsIn
import Derived.OrdersIn
import Derived.ControlIn
import Derived.Maps.AppendAt
import Derived.OrdersHeld
import Derived.Laws.IdiomStrings
import Derived.Maps.RangeRun
import Derived.Lib.BytesEntry
import Derived.Lib.Bytealg
import Derived.Laws.Externs
import Derived.ChangeKeysEq
import Derived.Deep.AppendSrc
import Derived.Laws.MakeOwn
set_option linter.all false
namespace Go.Proofs.YtjjjihkifgdhgaaGreatDoor
open Go.RowKit
def aA := @Option.bind_some
def aB := @Bool.false_eq_true
def aC := @List.length_append
def aF := @if_false
def aH := @List.length_cons
def aI := @List.append_assoc
def aJ := @if_true
def aK := @Nat.exists_eq_succ_of_ne_zero
def aM := @List.mem_cons
def aN := @List.eq_nil_of_length_eq_zero
def aO := @List.mem_append
def aP := @Bool.and_eq_true
def aQ := @Nat.le_refl
def aR := @run_underlying
def aS := @beq_self_eq_true
def aT := @List.append_nil
def aU := @if_neg
def aV := @Int.natCast_nonneg
def aW := @if_pos
def aX := @List.nil_append
def aY := @List.getElem?_eq_some_iff
def bA := @congrArg
def bD := @decide_eq_true_eq
def bE := @List.drop_length
def bF := @Bool.eq_iff_iff
def bG := @List.mem_map
def bH := @List.flatten_cons
def bI := @List.map_cons
def bJ := @List.cons_append
def bK := @Result.andThen_ok
def bM := @Nat.lt_succ_self
def bN := @List.length_nil
def bO := @List.nodup_append
def bP := @decide_true
def bQ := @Bool.not_true
def bR := @List.Perm.append_left
def bV := @List.map_append
def bW := @decide_false
def bX := @List.Perm.refl
def bY := @Sem.run_bind
def bZ := @List.pairwise_cons
def cA := @List.mem_append_left
def cD := @Bool.not_false
def cE := @List.flatten_append
def cH := @Nat.add_mul
def cI := @Nat.mul_le_mul_right
def cK := @List.mem_singleton
def cL := @List.pairwise_append
def cM := @List.cons.injEq
def cN := @List.mem_filter
def cP := @List.length_take
def cQ := @List.eq_nil_or_concat
def cR := @Calls.mono
def cT := @List.nodup_cons
def cU := @List.length_map
def cV := @List.flatten_nil
def cW := @Sem.run_pure
def cX := @List.mem_of_getElem?
def cZ := @List.getElem?_take_of_lt
def dl := @Array.getElem?_eq_some_iff
def dm := @List.not_mem_nil
def dn := @List.size_toArray
def dp := @Int.toNat_natCast
def dq := @Bool.true_and
def dr := @Nat.le_trans
def dt := @Addr.add_lit
def du := @List.take_of_length_le
def dw := @Nat.min_eq_left
def dx := @List.getElem?_eq_getElem
def dy := @List.filter_cons
def dz := @Array.length_toList
def dA := @Array.getElem?_modify
def dB := @Array.getElem?_toList
def dC := @List.concat_eq_append
def dE := @List.getElem?_drop
def dI := @List.mem_append_right
def dJ := @ByteArray.size_append
def dK := @Bool.eq_false_or_eq_true
def dL := @Nat.zero_add
def dM := @Nat.lt_of_lt_of_le
def dR := @List.any_eq_true
def dS := @List.findIdx?_eq_some_iff_getElem
def dT := @Nat.add_assoc
def dW := @Option.map_some
def dX := @List.perm_append_comm
def dY := @Nat.eq_zero_or_pos
def dZ := @List.all_eq_true
def eb := @List.length_zipIdx
def ei := @List.ext_getElem?
def ej := @List.length_eq_zero_iff
def ek := @List.getElem?_map
def eo := @List.map_nil
def ep := @List.map_map
def eu := @List.perm_middle
def ev := @List.getElem?_append_right
def ew := @List.findIdx?_cons
def ey := @List.length_filter_le
def ez := @Classical.byContradiction
def eA := @List.getElem?_set
def eB := @List.mem_cons_of_mem
def eF := @ByteArray.toList_eq
def eG := @List.take_append
def eJ := @Bool.false_and
def eK := @List.getElem?_take
def eQ := @Bool.or_eq_true
def eV := @List.any_cons
def eW := @List.singleton_append
def eX := @List.getElem?_eq_none
def eY := @Array.getD_eq_getD_getElem?
def eZ := @Function.comp_def
def fa := @List.pairwise_map
def fb := @List.perm_append_comm_assoc
def fe := @Bool.not_eq_true'
def fh := @cell_of_row
def fi := @List.getElem?_append
def fj := @or_false
def fk := @List.perm_append_singleton
def fl := @List.length_drop
def fq := @Bool.not_eq_true
def ft := @List.getElem?_append_left
def fu := @List.findIdx?_eq_none_iff
def fw := @List.Perm.nodup_iff
def fz := @run_callFunc_extern
def fA := @List.filter_eq_self
def fB := @ByteArray.ext
def fE := @List.foldl_cons
def fF := @List.find?_cons
def fG := @Option.some.inj
def fI := @grownCap_le_maxLen
def fJ := @beq_iff_eq
def fK := @eq_iff_iff
def fL := @List.find?_eq_none
def fM := @Nat.zero_le
def fN := @List.getElem?_cons_zero
def fO := @List.pairwise_mergeSort
def fQ := @List.pairwise_singleton
def fR := @List.take_take
def fS := @List.findIdx?_map
def fT := @Nat.add_zero
def fU := @Option.some.injEq
def fV := @List.Perm.append_right
def fW := @List.take_left
def fX := @Go.Lib.strCells_length
def gb := @Bool.and_assoc
def gd := @Bool.not_not
def gf := @List.flatMap_cons
def gh := @of_decide_eq_true
def gi := @List.getElem?_toArray
def gj := @List.take_append_drop
def gk := @Option.getD_some
def gq := @List.all_cons
def gr := @List.findIdx?_append
def gv := @List.forall_mem_cons
def gy := @List.length_set
def gA := @List.filter_nil
def gB := @Array.toList_append
def gC := @List.mergeSort_perm
def gD := @List.flatMap_append
def gE := @List.take_length_add_append
def gK := @List.drop_take
def gL := @List.map_replicate
def gM := @size_zeroCells
def gN := @List.map_mergeSort
def gT := @List.filter_append
def gU := @UInt8.toNat_lt
def gV := @Nat.le_succ
def gW := @run_storeCells_at
def gX := @Array.size_append
def gY := @Nat.mul_one
def iq := @UInt8.ofNat_toNat
def ir := @List.find?_append
def iw := @Bool.and_self
def iy := @List.sum_cons
def iz := @List.mem_flatten
def iA := @List.zipIdx_cons
def iE := @List.mem_flatMap
def iF := @callsIn_wide
def iL := @grownCap_ge
def iM := @Nat.one_mul
def iN := @getD_set_ne
def iS := @wpIn_mono
def iT := @mem_ready
class Md where
 ro : Option Nat
 D : List Deferred
instance yy : Md := ⟨none, []⟩
theorem wO {ro : Option Nat} {P : Program} {ρ : Operand → Value} {o : Oper} {W W' : World} {x : Next} (h : (execOp ρ o).run P W = .ok x W') (i : ∀ d, x ≠ .defer d) : (Oper.semAt ro ρ o).run P W = .ok x W' := by
 cases ro with
 | none => exact h
 | some l =>
  rw [Oper.semAt_eq]
  ·exact h
  ·intro c g
   have e : (execOp ρ o) = (resolve ρ c o.type >>= fun d => pure (Next.defer d)) := by
    unfold execOp; rw [g]
   rw [e, bY] at h
   cases b : (resolve ρ c o.type).run P W with
   | ok d w => rw [b, bK] at h; cases h; exact i d rfl
   | halt z w => rw [b] at h; cases h
def Md.F (M : Md) : Fence := { Fence.wide with round := M.ro }
theorem Kp {M : Md} {n : Nat} {P : Program} {f : FuncId} {args : Array Value} {w : World} {R : Ending → World → Prop} : CallsIn M.F n P f args w R ↔ Calls P f args w R := iF
theorem E2 {M : Md} {n : Nat} {P : Program} {f : FuncId} {args : Array Value} {w : World} {R : Ending → World → Prop} (h : Calls P f args w R) : (M.F.depth.isSome = true → 1 ≤ n) ∧ CallsIn M.F (n - 1) P f args w R :=
 ⟨fun e => (nomatch (show (none : Option Nat).isSome = true from e)), Kp.2 h⟩
variable [M : Md]
def nC (E : Nat → Value) (d : Nat) (v : Value) : Nat → Value := fun t => if t = d then v else E t
def je (E : Nat → Value) : Operand → Value
 | .tmp t => E t
 | .const v => v
 | .global g => .pointer (some ⟨g, 0, none⟩)
 | .func f => .func (.func f) #[] #[]
def Ag (n : Nat) (a : Act) (E : Nat → Value) : Prop := a.tmps.size = n ∧ a.defers = M.D ∧ ∀ t, a.tmps.getD t undef = E t
section
variable {n : Nat} {a : Act} {E : Nat → Value}
theorem Ag.eval (h : Ag n a E) : a.eval = je E := by
 funext x
 cases x with
 | tmp t => exact h.2.2 t
 | const v => rfl
 | global g => rfl
 | func f => rfl
theorem Ag.put (h : Ag n a E) {d : Nat} (g : d < n) (v : Value) : Ag n (a.put (some d) v) (nC E d v) := by
 refine ⟨by simp [Act.put, h.1], h.2.1, fun t => ?_⟩
 have c := h.2.2 t
 simp only [Act.put, nC]
 by_cases b : t = d
 ·subst b
  simp [h.1, g]
 ·have : ¬ d = t := fun e => b e.symm
  rw [aU b, ← c]
  simp [eY, this]
theorem Ag.xe (h : Ag n a E) (v : Value) : Ag n (a.put none v) E := h
theorem Ag.yield (h : Ag n a E) {ops : Array Oper} {j t : Nat} {b : Bool} (d : (ops[j]?).bind (·.dst) = some t) (i : t < n) (l : E t = .bool b) : yielded ops a.tmps j = some b := by
 have c := h.2.2 t
 have g : a.tmps[t]? = some (E t) := by
  rw [← c]
  simp [eY, h.1, i]
 simp [yielded, d, g, l]
end
abbrev oP := Exit → (Nat → Value) → World → Prop
def E0 : Nat → Value := fun _ => undef
def lift (n : Nat) (Q : oP) : Exit → Act → World → Prop
 | .panic c, a, w => a.defers = M.D ∧ Q (.panic c) E0 w
 | .outgrown, _, _ => False
 | e, a, w => ∃ E, Ag n a E ∧ Q e E w
theorem Hh {n : Nat} {Q : oP} {c : List PanicEntry} {a : Act} {d : Option Nat} {v : Value} {w : World} (h : lift n Q (.panic c) (a.put d v) w) : lift n Q (.panic c) a w := by
 cases d <;> exact h
def CW (P : Program) (n : Nat) (c : Code) (Q : oP) (E : Nat → Value) (W : World) : Prop := ∀ a, Ag n a E → c.wpIn M.F 0 P (lift n Q) a W
def LW (P : Program) (n : Nat) (ops : Array Oper) (Q : oP) (l : List Oper) (E : Nat → Value) (W : World) : Prop := ∀ a, Ag n a E → wpListIn M.F 0 P ops (lift n Q) l a W
def oZ (K : (Nat → Value) → World → Prop) (Q : oP) : oP
 | .normal, E, W => K E W
 | e, E, W => Q e E W
def ua (id : Nat) (Q : oP) : oP
 | .exit j, E, W => if j = id then Q .normal E W else Q (.exit j) E W
 | e, E, W => Q e E W
section
variable {P : Program} {n : Nat} {Q : oP} {E : Nat → Value} {W : World} {c x y : Code} {ops : Array Oper} {rest : List Oper} {o : Oper}
theorem E9 {Q' : oP} (h : CW P n c Q E W) (g : ∀ e E W, Q e E W → Q' e E W) : CW P n c Q' E W := fun a ha =>
 iS (h a ha) (fun e _ _ h => by
  cases e with
  | panic c => exact ⟨h.1, g _ _ _ h.2⟩
  | outgrown => exact h
  | _ => obtain ⟨E', b, d⟩ := h; exact ⟨E', b, g _ _ _ d⟩)
theorem jt (h : CW P n x (oZ (fun E W => CW P n y Q E W) Q) E W) : CW P n (.seq x y) Q E W := fun a ha =>
 wpIn_seq (iS (h a ha) (fun e c g h => by
  cases e with
  | normal => obtain ⟨E', b, d⟩ := h; exact d c b
  | _ => exact h))
theorem kX (h : Q .normal E W) : CW P n .skip Q E W := fun _ ha => wpIn_skip ⟨E, ha, h⟩
theorem kl (h : Q .ret E W) : CW P n .ret Q E W := fun _ ha => wpIn_ret ⟨E, ha, h⟩
theorem mU {id : Nat} (h : Q (.exit id) E W) : CW P n (.exit id) Q E W := fun _ ha => wpIn_exit ⟨E, ha, h⟩
theorem kW {id : Nat} (h : CW P n c (ua id Q) E W) : CW P n (.block id c) Q E W := fun a ha =>
 wpIn_block (iS (h a ha) (fun e i l h => by
  cases e with
  | exit j =>
   obtain ⟨E', b, d⟩ := h
   simp only [Exit.inBlock]
   simp only [ua] at d
   split at d
   ·rename_i g; rw [aW g]; exact ⟨E', b, d⟩
   ·rename_i g; rw [aU g]; exact ⟨E', b, d⟩
  | _ => exact h))
theorem IL {co : Operand} {b : Bool} (c : je E co = .bool b) (g : b = true → CW P n x Q E W) (d : b = false → CW P n y Q E W) : CW P n (.cond co x y) Q E W := fun a ha => by
 refine wpIn_cond_split (t := b) (by rw [ha.eval]; exact c) (fun h => g h a ha) (fun h => d h a ha)
theorem uk {co : Operand} (b : je E co = .bool true) (h : CW P n x Q E W) : CW P n (.cond co x y) Q E W := IL b (fun _ => h) (fun h => by cases h)
theorem pb {co : Operand} (b : je E co = .bool false) (h : CW P n y Q E W) : CW P n (.cond co x y) Q E W := IL b (fun h => by cases h) (fun _ => h)
theorem jq {id : Nat} {l : List Oper} (h : LW P n l.toArray Q l E W) : CW P n (.region id l.toArray false) Q E W := fun a ha => wpIn_region_lit (h a ha)
theorem jH (h : Q .normal E W) : LW P n ops Q [] E W := fun _ ha => wpListIn_nil ⟨E, ha, h⟩
theorem Ev {P : Program} {F : Fence} {n : Nat} {c : Code} {Q : Exit → Act → World → Prop} {a : Act} {w : World} (I : Nat → Act → World → Prop) (m : Nat) (j : I m a w) (round : ∀ m a w, I m a w → c.wpIn F n P (Exit.then (fun l o => ∃ g, g < m ∧ I g l o) Q) a w) : (Code.loop c).wpIn F n P Q a w := by
 classical
 let J : Act → World → Prop := fun a w => ∃ m, I m a w
 have least : ∀ a w, J a w → ∃ m, I m a w ∧ ∀ k, I k a w → m ≤ k := fun a w ⟨m, hm⟩ => by
  induction m using Nat.strongRecOn with
  | _ m ih =>
   by_cases h : ∃ k, k < m ∧ I k a w
   ·obtain ⟨k, hk, b⟩ := h; exact ih k hk b
   ·exact ⟨m, hm, fun k b => Nat.le_of_not_lt fun d => h ⟨k, d, b⟩⟩
 let μ : Act → World → Nat := fun a w => if h : J a w then Classical.choose (least a w h) else 0
 have i : ∀ a w (h : J a w), I (μ a w) a w ∧ ∀ k, I k a w → μ a w ≤ k := fun a w h => by
  have e : μ a w = Classical.choose (least a w h) := dif_pos h
  rw [e]; exact Classical.choose_spec (least a w h)
 refine wpIn_loop J μ ⟨m, j⟩ fun a w p => iS (round _ a w (i a w p).1) fun e l o h => ?_
 cases e with
 | normal => obtain ⟨g, d, b⟩ := h; exact ⟨⟨g, b⟩, Nat.lt_of_le_of_lt ((i l o ⟨g, b⟩).2 g b) d⟩
 | _ => exact h
theorem nm (I : Nat → (Nat → Value) → World → Prop) (m : Nat) (b : I m E W) (round : ∀ m E W, I m E W → CW P n c (oZ (fun E' W' => ∃ d, d < m ∧ I d E' W') Q) E W) : CW P n (.loop c) Q E W := fun a ha =>
 Ev (fun m a w => ∃ E, Ag n a E ∧ I m E w) m ⟨E, ha, b⟩ (fun m a w ⟨E, ha, l⟩ =>
  iS (round m E w l a ha) (fun e o p h => by
   cases e with
   | normal => obtain ⟨E', i, d, j, g⟩ := h; exact ⟨d, j, E', i, g⟩
   | _ => exact h))
def sh (n : Nat) (ops : Array Oper) (E : Nat → Value) (o : Oper) : Prop :=
 o.guard = none ∨ ∃ j want t, o.guard = some (j, want) ∧ (ops[j]?).bind (·.dst) = some t ∧ t < n ∧ E t = .bool want
theorem sh.of {a : Act} (h : sh n ops E o) (ha : Ag n a E) : Region.wanted o (yielded ops a.tmps) = true := by
 rcases h with h | ⟨j, want, t, c, d, g, b⟩
 ·simp [Region.wanted, h]
 ·simp [Region.wanted, c, ha.yield d g b]
theorem JM {d : Nat} {v : Value} {W' : World} (hw : sh n ops E o) (b : o.dst = some d) (c : d < n) (g : (execOp (je E) o).run P W = .ok (.value v) W') (h : LW P n ops Q rest (nC E d v) W') : LW P n ops Q (o :: rest) E W := fun a ha => by
 unfold wpListIn
 rw [aW (hw.of ha)]
 unfold Oper.wpIn
 refine ⟨fun _ _ => trivial, ?_⟩
 rw [ha.eval, wO g (by simp), Oper.uponIn_value, b]
 exact h _ (ha.put c v)
theorem LH {W' : World} (hw : sh n ops E o) (b : o.dst = none) (c : (execOp (je E) o).run P W = .ok .skip W') (h : LW P n ops Q rest E W') : LW P n ops Q (o :: rest) E W := fun a ha => by
 unfold wpListIn
 rw [aW (hw.of ha)]
 unfold Oper.wpIn
 refine ⟨fun _ _ => trivial, ?_⟩
 rw [ha.eval, wO c (by simp), Oper.uponIn_skip, b]
 exact h _ (ha.xe _)
theorem Lw {f : FuncId} {args : Array Value} {d : Nat} (hw : sh n ops E o) (c : o.dst = some d) (i : d < n) (j : (execOp (je E) o).run P W = .ok (.enter f args) W) (h : Calls P f args W fun e b => ∃ v, e = .returned v ∧ LW P n ops Q rest (nC E d v) b) : LW P n ops Q (o :: rest) E W := fun a ha => by
 unfold wpListIn
 rw [aW (hw.of ha)]
 unfold Oper.wpIn
 refine ⟨fun _ _ => trivial, ?_⟩
 rw [ha.eval, wO j (by simp), Oper.uponIn_enter]
 refine E2 (cR h ?_)
 rintro e b ⟨v, rfl, g⟩
 simp only [c]
 exact g _ (ha.put i v)
theorem O3 {d j t : Nat} {want : Bool} (c : o.dst = some d) (l : d < n) (g : o.guard = some (j, want)) (i : (ops[j]?).bind (·.dst) = some t) (m : t < n) (b : E t = .bool (!want)) (h : LW P n ops Q rest (nC E d undef) W) : LW P n ops Q (o :: rest) E W := fun a ha => by
 unfold wpListIn
 have p := ha.yield i m b
 rw [aU (by simp [Region.wanted, g, p])]
 rw [c]
 exact ⟨fun _ _ => trivial, h _ (ha.put l _)⟩
end
end Go.Proofs.YtjjjihkifgdhgaaGreatDoor
namespace Go.Proofs.YtjjjihkifgdhgaaGreatDoor
open Go.RowKit
variable {dd : Bool}
abbrev jx := Nat → Option Obj
def hp (W : World) : jx := fun b => W.heap[b]?
def qI (dd : Bool) (a b : Nat) : Prop := dd = true → a ≤ b
theorem qI.of {dd : Bool} {a b : Nat} (h : a ≤ b) : qI dd a b := fun _ => h
theorem qI.trans {dd : Bool} {a b c : Nat} (h : qI dd a b) (k : qI dd b c) : qI dd a c := fun e => dr (h e) (k e)
structure Ex (dd : Bool) (w W : World) : Prop where
 os : W.os = w.os
 tape : W.tape = w.tape
 output : W.output = w.output
 drawn : qI dd w.drawn W.drawn
 size : w.heap.size ≤ W.heap.size
 kO : ∀ b, b < w.heap.size → W.heap[b]? = w.heap[b]?
theorem Ex.refl (w : World) : Ex dd w w := ⟨rfl, rfl, rfl, qI.of (aQ _), aQ _, fun _ _ => rfl⟩
theorem Ex.trans {a b c : World} (h : Ex dd a b) (k : Ex dd b c) : Ex dd a c :=
 ⟨k.os.trans h.os, k.tape.trans h.tape, k.output.trans h.output, qI.trans h.drawn k.drawn, dr h.size k.size, fun i d => (k.kO i (dM d h.size)).trans (h.kO i d)⟩
theorem Ex.drew (w : World) : Ex dd w w.drew := ⟨rfl, rfl, rfl, qI.of (gV _), aQ _, fun _ _ => rfl⟩
theorem Ex.alloc (w : World) (o : Obj) : Ex dd w (w.alloc o) := ⟨rfl, rfl, rfl, qI.of (aQ _), by show w.heap.size ≤ (w.heap.push o).size; simp, fun k hk => Below.heap_alloc w o k hk⟩
theorem Ex.lI {w W : World} (h : Ex true w W) : Ex dd w W := ⟨h.os, h.tape, h.output, qI.of (h.drawn rfl), h.size, h.kO⟩
def jC (μ μ' : jx) : Prop := ∀ b o, μ b = some o → μ' b = some o
theorem jC.refl (μ : jx) : jC μ μ := fun _ _ h => h
theorem jC.trans {a b c : jx} (h : jC a b) (k : jC b c) : jC a c := fun x o d => k x o (h x o d)
structure ST (dd : Bool) (F : Nat → Prop) (w W : World) (μ : jx) (L : List (Nat × Obj)) : Prop where
 os : W.os = w.os
 tape : W.tape = w.tape
 output : W.output = w.output
 drawn : qI dd w.drawn W.drawn
 size : w.heap.size ≤ W.heap.size
 kO : ∀ b, b < w.heap.size → ¬ F b → W.heap[b]? = w.heap[b]?
 mem : ∀ b o, μ b = some o → W.heap[b]? = some o
 box : ∀ b o, (b, o) ∈ L → W.heap[b]? = some o ∧ μ b = none ∧ (w.heap.size ≤ b ∨ F b)
 nd : (L.map (·.1)).Nodup
def lG : Nat → Prop := fun _ => False
theorem ST.start (w : World) : ST dd lG w w (hp w) [] :=
 ⟨rfl, rfl, rfl, qI.of (aQ _), aQ _, fun _ _ _ => rfl, fun _ _ h => h, fun _ _ h => (by cases h), by simp⟩
section
variable {F : Nat → Prop} {w W W' : World} {μ μ' : jx} {L L' : List (Nat × Obj)}
theorem ST.ex (h : ST dd lG w W μ L) : Ex dd w W := ⟨h.os, h.tape, h.output, h.drawn, h.size, fun b c => h.kO b c (fun x => x)⟩
theorem LY (W : World) (o : Obj) : (W.alloc o).heap[W.heap.size]? = some o := heap_alloc_new W o
theorem mR {W : World} {b : Nat} {o : Obj} (h : W.heap[b]? = some o) : b < W.heap.size := (dl.1 h).1
theorem ST.drew (h : ST dd F w W μ L) : ST dd F w W.drew μ L :=
 ⟨h.os, h.tape, h.output, qI.trans h.drawn (qI.of (gV _)), h.size, h.kO, h.mem, h.box, h.nd⟩
theorem ST.BQ (h : ST dd F w W μ L) {b : Nat} {o : Obj} (c : (b, o) ∈ L) : b < W.heap.size := mR (h.box b o c).1
theorem ST.alloc (h : ST dd F w W μ L) (o : Obj) : ST dd F w (W.alloc o) μ ((W.heap.size, o) :: L) := by
 refine ⟨h.os, h.tape, h.output, h.drawn, dr h.size (Ex.alloc (dd := true) W o).size, fun b c j => ?_, fun b d c => ?_, fun b d c => ?_, ?_⟩
 ·rw [(Ex.alloc (dd := true) W o).kO b (dM c h.size)]; exact h.kO b c j
 ·have := h.mem b d c
  rw [(Ex.alloc (dd := true) W o).kO b (mR this)]; exact this
 ·rcases aM.1 c with e | c
  ·cases e
   refine ⟨LY W o, ?_, .inl h.size⟩
   cases hm : μ W.heap.size with
   | none => rfl
   | some x => have := mR (h.mem _ _ hm); omega
  ·obtain ⟨h1, g, i⟩ := h.box b d c
   exact ⟨by rw [(Ex.alloc (dd := true) W o).kO b (mR h1)]; exact h1, g, i⟩
 ·simp only [bI, cT]
  refine ⟨fun hm => ?_, h.nd⟩
  obtain ⟨⟨b, d⟩, c, e⟩ := bG.1 hm
  have := h.BQ c
  simp at e
  omega
theorem ST.put {A B : List (Nat × Obj)} {b : Nat} {o n : Obj} (h : ST dd F w W μ (A ++ (b, o) :: B)) (t : W'.os = W.os ∧ W'.tape = W.tape ∧ W'.output = W.output ∧ W.drawn ≤ W'.drawn ∧ W'.heap.size = W.heap.size) (g : ∀ k, k ≠ b → W'.heap[k]? = W.heap[k]?) (u : W'.heap[b]? = some n) : ST dd F w W' μ (A ++ (b, n) :: B) := by
 obtain ⟨h1, p, q, r, s⟩ := t
 have d := h.box b o (by simp)
 have c := h.nd
 simp only [bV, bI] at c
 have i : ∀ x o, (x, o) ∈ A → x ≠ b := fun x o l e => by
  subst e
  have := (bO.1 c).2.2 x (bG.2 ⟨_, l, rfl⟩) x (by simp)
  exact this rfl
 have j : ∀ x o, (x, o) ∈ B → x ≠ b := fun x o l e => by
  subst e
  have := (cT.1 (bO.1 c).2.1).1
  exact this (bG.2 ⟨_, l, rfl⟩)
 refine ⟨h1.trans h.os, p.trans h.tape, q.trans h.output, qI.trans h.drawn (qI.of r), by rw [s]; exact h.size, fun k hk m => ?_, fun k x hk => ?_, fun k x hk => ?_, by simpa using c⟩
 ·rw [g k (fun e => by subst e; rcases d.2.2 with h | h; omega; exact m h)]
  exact h.kO k hk m
 ·rw [g k (fun e => by subst e; rw [d.2.1] at hk; cases hk)]
  exact h.mem k x hk
 ·rcases aO.1 hk with hk | hk
  ·rw [g k (i k x hk)]; exact h.box k x (by simp [hk])
  ·rcases aM.1 hk with e | hk
   ·cases e; exact ⟨u, d.2⟩
   ·rw [g k (j k x hk)]; exact h.box k x (by simp [hk])
def Lo (F : Nat → Prop) (w : World) (μ μ' : jx) : Prop := ∀ b, b < w.heap.size → ¬ F b → μ' b = μ b
theorem Lo.refl {F : Nat → Prop} {w : World} {μ : jx} : Lo F w μ μ := fun _ _ _ => rfl
theorem Lo.trans {F : Nat → Prop} {w : World} {a b c : jx} (h : Lo F w a b) (k : Lo F w b c) : Lo F w a c := fun x g d => (k x g d).trans (h x g d)
def grow (μ : jx) (W W' : World) : jx := fun b => if b < W.heap.size then μ b else W'.heap[b]?
theorem ST.AV (h : ST dd F w W μ L) {b : Nat} {o : Obj} (c : μ b = some o) : b < W.heap.size := mR (h.mem b o c)
theorem ST.call (h : ST dd F w W μ L) (d : Ex dd W W') : ST dd F w W' (grow μ W W') L := by
 refine ⟨d.os.trans h.os, d.tape.trans h.tape, d.output.trans h.output, qI.trans h.drawn d.drawn, dr h.size d.size, fun b c l => ?_, fun b o c => ?_, fun b o c => ?_, h.nd⟩
 ·rw [d.kO b (dM c h.size)]; exact h.kO b c l
 ·unfold grow at c
  split at c
  ·rename_i g; rw [d.kO b g]; exact h.mem b o c
  ·exact c
 ·obtain ⟨h1, i, j⟩ := h.box b o c
  exact ⟨by rw [d.kO b (mR h1)]; exact h1, by unfold grow; rw [aW (mR h1)]; exact i, j⟩
theorem ST.KT (h : ST dd F w W μ L) (W' : World) : jC μ (grow μ W W') := fun b o c => by
 unfold grow; rw [aW (h.AV c)]; exact c
theorem ST.lI (h : ST dd F w W μ' L) (d : jC μ μ') : ST dd F w W μ L :=
 ⟨h.os, h.tape, h.output, h.drawn, h.size, h.kO, fun b o c => h.mem b o (d b o c), fun b o c => by
  obtain ⟨h1, g, i⟩ := h.box b o c
  refine ⟨h1, ?_, i⟩
  cases hm : μ b with
  | none => rfl
  | some x => (have := d b x hm; rw [g] at this; cases this), h.nd⟩
theorem ST.Ew (h : ST dd F w W μ L) (b : Ex dd W W') : ST dd F w W' μ L := (h.call b).lI (h.KT W')
theorem ST.jk (h : ST dd F w W μ L) : jC μ (hp W) := h.mem
def H4 (μ : jx) (b : Nat) (o : Obj) : jx := fun k => if k = b then some o else μ k
theorem ST.E6 {A B : List (Nat × Obj)} {b : Nat} {o : Obj} (h : ST dd F w W μ (A ++ (b, o) :: B)) : ST dd F w W (H4 μ b o) (A ++ B) := by
 have g := h.box b o (by simp)
 have c := h.nd
 simp only [bV, bI] at c
 have j : ∀ x y, (x, y) ∈ A ++ B → x ≠ b := fun x y d e => by
  subst e
  rcases aO.1 d with d | d
  ·exact (bO.1 c).2.2 x (bG.2 ⟨_, d, rfl⟩) x (by simp) rfl
  ·exact (cT.1 (bO.1 c).2.1).1 (bG.2 ⟨_, d, rfl⟩)
 refine ⟨h.os, h.tape, h.output, h.drawn, h.size, h.kO, fun k x hk => ?_, fun k x hk => ?_, ?_⟩
 ·unfold H4 at hk
  split at hk
  ·rename_i e; cases hk; rw [e]; exact g.1
  ·exact h.mem k x hk
 ·have i : (k, x) ∈ A ++ (b, o) :: B := by
   rcases aO.1 hk with h | h <;> simp [h]
  obtain ⟨h1, l, m⟩ := h.box k x i
  exact ⟨h1, by unfold H4; rw [aU (j k x hk)]; exact l, m⟩
 ·have : (A ++ B).Sublist (A ++ (b, o) :: B) := List.Sublist.append (List.Sublist.refl A) (List.sublist_cons_self _ _)
  exact List.Nodup.sublist (this.map _) h.nd
theorem ST.E4 {A B : List (Nat × Obj)} {b : Nat} {o : Obj} (h : ST dd F w W μ (A ++ (b, o) :: B)) : jC μ (H4 μ b o) := fun k x hk => by
 unfold H4
 split
 ·rename_i e; subst e; rw [(h.box k o (by simp)).2.1] at hk; cases hk
 ·exact hk
theorem ST.Kd {A B : List (Nat × Obj)} {b : Nat} {o : Obj} (h : ST dd F w W μ (A ++ (b, o) :: B)) : Lo F w μ (H4 μ b o) := fun k hk d => by
 refine aU (fun e => ?_)
 subst e
 rcases (h.box k o (by simp)).2.2 with c | c
 ·omega
 ·exact d c
theorem ST.drop {A B : List (Nat × Obj)} {p : Nat × Obj} (h : ST dd F w W μ (A ++ p :: B)) : ST dd F w W μ (A ++ B) :=
 (h.E6 (b := p.1) (o := p.2)).lI h.E4
end
abbrev oF (α : Type) := jx → List Value → α → Prop
def Sl {α : Type} (R : oF α) (k : Nat) (μ : jx) (v : Value) (l : List α) : Prop :=
 ∃ A c, v = .slice A l.length c ∧ l.length ≤ c ∧ c ≤ maxLen ∧ (0 < l.length → ∃ b off cs T fr, A = some ⟨b, off, none⟩ ∧ μ b = some (.cells cs T fr) ∧
  ∀ i x, l[i]? = some x → ∃ ys, ys.length = k ∧ R μ ys x ∧ ∀ j y, ys[j]? = some y → cs[off + i * k + j]? = some y)
def At (μ : jx) (v : Value) (ys : List Value) : Prop :=
 ∃ b off cs T fr, v = .pointer (some ⟨b, off, none⟩) ∧ μ b = some (.cells cs T fr) ∧ ∀ j y, ys[j]? = some y → cs[off + j]? = some y
def Fr (B : Nat) (v : Value) : Prop := ∀ b, v.ownBlock = some b → B ≤ b
def Ea {α : Type} (R : oF α) : Prop := ∀ μ μ' ys x, jC μ μ' → R μ ys x → R μ' ys x
def Pl {α : Type} (enc : α → List Value) : oF α := fun _ ys x => ys = enc x
theorem Pl.mono {α : Type} (enc : α → List Value) : Ea (Pl enc) := fun _ _ _ _ _ h => h
theorem Sl.mono {α : Type} {R : oF α} (t : Ea R) {k : Nat} {μ μ' : jx} {v : Value} {l : List α} (h : Sl R k μ v l) (g : jC μ μ') : Sl R k μ' v l := by
 obtain ⟨A, c, h1, j, m, n⟩ := h
 refine ⟨A, c, h1, j, m, fun u => ?_⟩
 obtain ⟨b, off, cs, T, fr, o, p, q⟩ := n u
 exact ⟨b, off, cs, T, fr, o, g _ _ p, fun i x w => let ⟨ys, r, s, d⟩ := q i x w; ⟨ys, r, t _ _ _ _ g s, d⟩⟩
theorem At.mono {μ μ' : jx} {v : Value} {ys : List Value} (h : At μ v ys) (g : jC μ μ') : At μ' v ys := by
 obtain ⟨b, off, cs, T, fr, h1, c, d⟩ := h
 exact ⟨b, off, cs, T, fr, h1, g _ _ c, d⟩
theorem Sl.len {α : Type} {R : oF α} {k : Nat} {μ : jx} {v : Value} {l : List α} (h : Sl R k μ v l) : l.length ≤ 9223372036854775807 := by
 obtain ⟨A, c, h1, d, b, g⟩ := h
 unfold maxLen at b
 omega
theorem Sl.nil {α : Type} (R : oF α) (k : Nat) (μ : jx) : Sl R k μ (.slice none 0 0) [] := ⟨none, 0, rfl, aQ _, by decide, fun h => absurd h (by simp)⟩
theorem Fr.mono {B B' : Nat} {v : Value} (h : Fr B v) (c : B' ≤ B) : Fr B' v := fun b d => dr c (h b d)
theorem Fr.nil (B : Nat) : Fr B (.slice none 0 0) := fun b c => by simp [Value.ownBlock] at c
end Go.Proofs.YtjjjihkifgdhgaaGreatDoor
namespace Go.Proofs.YtjjjihkifgdhgaaGreatDoor
open Go.RowKit
variable [M : Md]
variable {dd : Bool}
section
variable {P : Program} {n : Nat} {Q : oP} {E : Nat → Value} {W : World} {ops : Array Oper} {rest : List Oper}
 {d : Option Nat} {ty : TypeId} {pos : String} {af : Array Edge} {g : Option (Nat × Bool)}
 {F : Nat → Prop} {w : World} {μ : jx} {L : List (Nat × Obj)}
def kH (P : Program) (E : Nat → Value) (o : Oper) (W : World) (v : Value) (W' : World) : Prop := (execOp (je E) o).run P W = .ok (.value v) W'
theorem Fv {o : Oper} {dd : Nat} {v : Value} (hw : sh n ops E o) (b : o.dst = some dd) (c : dd < n) (d : kH P E o W v W) (h : LW P n ops Q rest (nC E dd v) W) : LW P n ops Q (o :: rest) E W := JM hw b c d h
theorem jh {x : Operand} {v : Value} (b : je E x = v) : kH P E ⟨d, .move x, ty, pos, af, g⟩ W v W := by rw [← b]; rfl
theorem oa {x : Operand} {v : Value} (b : je E x = v) : kH P E ⟨d, .assign x, ty, pos, af, g⟩ W v W := by rw [← b]; rfl
theorem jW {c x y : Operand} {v : Value} (b : je E c = .bool true) (h : je E x = v) : kH P E ⟨d, .pick c x y, ty, pos, af, g⟩ W v W := by
 show (do pure (.value (if ← asBool (je E c) then je E x else je E y)) : Sem Next).run P W = _
 rw [b, ← h]; simp [asBool]
theorem jY {c x y : Operand} {v : Value} (b : je E c = .bool false) (h : je E y = v) : kH P E ⟨d, .pick c x y, ty, pos, af, g⟩ W v W := by
 show (do pure (.value (if ← asBool (je E c) then je E x else je E y)) : Sem Next).run P W = _
 rw [b, ← h]; simp [asBool]
theorem Ca {x : Operand} {i : Nat} {vs : Array Value} {v : Value} (c : je E x = .tuple vs) (b : vs[i]? = some v) : kH P E ⟨d, .extract x i, ty, pos, af, g⟩ W v W := by
 show (do pure (.value (← Instr.extract (je E x) i)) : Sem Next).run P W = _
 rw [c]; simp [Instr.extract, b]
theorem px {u : TypeId} {x : Operand} {b : Bool} (c : je E x = .bool b) : kH P E ⟨d, .unOp .not u x, ty, pos, af, g⟩ W (.bool !b) W := by
 show (do pure (.value (← Op.unary .not (je E x))) : Sem Next).run P W = _
 rw [c]; simp [Op.unary]
theorem I1 {fn : Fn} {first b : Array Operand} {v : Value} (c : .func fn (first.map (je E)) (b.map (je E)) = v) : kH P E ⟨d, .makeFunc fn first b, ty, pos, af, g⟩ W v W := by
 show (do pure (.value (← Instr.makeFunc fn (first.map (je E)) (b.map (je E)))) : Sem Next).run P W = _
 rw [← c]; simp [Instr.makeFunc]
def Gf (k : IntKind) (op : BinOp) (a b : Int) : Option Value :=
 match op with
 | .eql => some (.bool (a == b))
 | .neq => some (.bool (a != b))
 | .lss => some (.bool (decide (a < b)))
 | .leq => some (.bool (decide (a ≤ b)))
 | .gtr => some (.bool (decide (a > b)))
 | .geq => some (.bool (decide (a ≥ b)))
 | .add => some (.int k (k.wrap (a + b)))
 | .sub => some (.int k (k.wrap (a - b)))
 | .mul => some (.int k (k.wrap (a * b)))
 | _ => none
theorem lA {op : BinOp} {tx tv : TypeId} {x y : Operand} {k : IntKind} {a b : Int} {v : Value} (h : je E x = .int k a) (i : je E y = .int k b) (c : Gf k op a b = some v) :
  kH P E ⟨d, .binOp op tx x y tv, ty, pos, af, g⟩ W v W := by
 show (do let r ← (do eqGuard op tx x y (je E x) (je E y); binOp op tx (je E x) (je E y)); pure (.value r) : Sem Next).run P W = _
 rw [h, i]
 cases op <;> simp [Gf] at c <;> subst c <;> simp [eqGuard, binOp, Op.intCmp, Op.intArith]
def Mw (op : BinOp) (a b : ByteArray) : Option Value :=
 match op with
 | .eql => some (.bool (a.toList == b.toList))
 | .neq => some (.bool !(a.toList == b.toList))
 | .lss => some (.bool (Op.bytesLess a.toList b.toList))
 | .leq => some (.bool (Op.bytesLess a.toList b.toList || a.toList == b.toList))
 | .gtr => some (.bool !(Op.bytesLess a.toList b.toList || a.toList == b.toList))
 | .geq => some (.bool !(Op.bytesLess a.toList b.toList))
 | _ => none
def oN (a b : ByteArray) : Option ByteArray := if ((a.size + b.size : Nat) : Int) > IntKind.i64.max then none else some (a ++ b)
theorem Jj {op : BinOp} {tx tv : TypeId} {x y : Operand} {a b : ByteArray} {v : Value} (h : je E x = .string a) (i : je E y = .string b) (c : Mw op a b = some v) :
  kH P E ⟨d, .binOp op tx x y tv, ty, pos, af, g⟩ W v W := by
 show (do let r ← (do eqGuard op tx x y (je E x) (je E y); binOp op tx (je E x) (je E y)); pure (.value r) : Sem Next).run P W = _
 rw [h, i]
 cases op <;> simp [Mw] at c <;> subst c <;> simp [eqGuard, binOp, Op.stringOp]
theorem vR {tx tv : TypeId} {x y : Operand} {a b r : ByteArray} (h : je E x = .string a) (i : je E y = .string b) (c : oN a b = some r) :
  kH P E ⟨d, .binOp .add tx x y tv, ty, pos, af, g⟩ W (.string r) W := by
 show (do let r ← (do eqGuard .add tx x y (je E x) (je E y); binOp .add tx (je E x) (je E y)); pure (.value r) : Sem Next).run P W = _
 rw [h, i]
 simp only [oN] at c
 split at c
 ·cases c
 ·rename_i hle; cases c; simp [eqGuard, binOp, Op.stringOp]; simpa using hle
theorem Bc {tx tv : TypeId} {x y : Operand} {a b : Array Value} {r : Bool} (i : je E x = .agg a) (j : je E y = .agg b) (c : ∀ W, (eqGuard .eql tx x y (.agg a) (.agg b)).run P W = .ok () W) (h : ∀ W, (binOp .eql tx (.agg a) (.agg b)).run P W = .ok (.bool r) W) : kH P E ⟨d, .binOp .eql tx x y tv, ty, pos, af, g⟩ W (.bool r) W := by
 show (do let r ← (do eqGuard .eql tx x y (je E x) (je E y); binOp .eql tx (je E x) (je E y)); pure (.value r) : Sem Next).run P W = _
 rw [i, j]; simp [c W, h W]
theorem Pf {tx tv : TypeId} {x y : Operand} {a b : Array Value} {r : Bool} (i : je E x = .agg a) (j : je E y = .agg b) (c : ∀ W, (eqGuard .neq tx x y (.agg a) (.agg b)).run P W = .ok () W) (h : ∀ W, (binOp .neq tx (.agg a) (.agg b)).run P W = .ok (.bool r) W) : kH P E ⟨d, .binOp .neq tx x y tv, ty, pos, af, g⟩ W (.bool r) W := by
 show (do let r ← (do eqGuard .neq tx x y (je E x) (je E y); binOp .neq tx (je E x) (je E y)); pure (.value r) : Sem Next).run P W = _
 rw [i, j]; simp [c W, h W]
theorem zt {t e : TypeId} (dd : Nat) (b : P.underlying t = some (.pointer e)) (a : Option Addr) (W : World) : (Op.equalIn (dd + 1) t (.pointer a) (.pointer none)).run P W = .ok a.isNone W := by
 cases a <;> simp [Op.equalIn, aR b]
theorem rO {tx tv e : TypeId} {x y : Operand} {a : Option Addr} (c : P.underlying tx = some (.pointer e)) (h : je E x = .pointer a) (i : je E y = .pointer none) :
  kH P E ⟨d, .binOp .eql tx x y tv, ty, pos, af, g⟩ W (.bool a.isNone) W := by
 show (do let r ← (do eqGuard .eql tx x y (je E x) (je E y); binOp .eql tx (je E x) (je E y)); pure (.value r) : Sem Next).run P W = _
 rw [h, i]
 have b := zt 9999 c a W
 simp [eqGuard, binOp, Op.equal, show Op.maxDepth = 9999 + 1 from rfl, b]
theorem Bg {tx tv e : TypeId} {x y : Operand} {a : Option Addr} (c : P.underlying tx = some (.pointer e)) (h : je E x = .pointer a) (i : je E y = .pointer none) :
  kH P E ⟨d, .binOp .neq tx x y tv, ty, pos, af, g⟩ W (.bool !a.isNone) W := by
 show (do let r ← (do eqGuard .neq tx x y (je E x) (je E y); binOp .neq tx (je E x) (je E y)); pure (.value r) : Sem Next).run P W = _
 rw [h, i]
 have b := zt 9999 c a W
 simp [eqGuard, binOp, Op.equal, show Op.maxDepth = 9999 + 1 from rfl, b]
theorem Dt {x : Operand} {t : TypeId} {s : ByteArray} (b : P.underlying t = some .string) (c : je E x = .string s) : kH P E ⟨d, .call ⟨.builtin .len, #[x], #[t]⟩, ty, pos, af, g⟩ W (.int .i64 s.size) W := by
 show (do let d ← resolve (je E) ⟨.builtin .len, #[x], #[t]⟩ ty; invoke d.target d.args : Sem Next).run P W = _
 simp [resolve, invoke, builtin, Builtin.len_, aR b, c, goInt]
theorem xa {x : Operand} {t e : TypeId} {A : Option Addr} {l c : Nat} (b : P.underlying t = some (.slice e)) (h : je E x = .slice A l c) : kH P E ⟨d, .call ⟨.builtin .len, #[x], #[t]⟩, ty, pos, af, g⟩ W (.int .i64 l) W := by
 show (do let d ← resolve (je E) ⟨.builtin .len, #[x], #[t]⟩ ty; invoke d.target d.args : Sem Next).run P W = _
 simp [resolve, invoke, builtin, Builtin.len_, aR b, h, goInt]
theorem lT {α : Type} {R : oF α} {k : Nat} {m : jx} {x : Operand} {t e : TypeId} {v : Value} {l : List α} (h : P.underlying t = some (.slice e)) (i : je E x = v) (b : Sl R k m v l) : kH P E ⟨d, .call ⟨.builtin .len, #[x], #[t]⟩, ty, pos, af, g⟩ W (.int .i64 l.length) W := by
 obtain ⟨A, c, rfl, _⟩ := b
 exact xa h i
theorem Jv {t : TypeId} {x b : Operand} {o : IntKind} {s : ByteArray} {i : Int} {c : UInt8} (m : P.underlying t = some .string) (n : je E x = .string s) (j : je E b = .int o i) (h : 0 ≤ i) (l : s[i.toNat]? = some c) :
  kH P E ⟨d, .index t x b, ty, pos, af, g⟩ W (.int .u8 c.toNat) W := by
 show (do pure (.value (← Instr.index t (je E x) (je E b))) : Sem Next).run P W = _
 rw [n, j]
 simp [Instr.index, asIntOf, aR m, h, l]
def kI (P : Program) (t : TypeId) (f off : Nat) : Prop := ∀ b o w, (Instr.fieldAt t (.pointer (some ⟨b, o, none⟩)) f).run P w = .ok (.pointer (some ⟨b, o + off, none⟩)) w
theorem jm {t : TypeId} {x : Operand} {f off b o : Nat} (c : kI P t f off) (h : je E x = .pointer (some ⟨b, o, none⟩)) : kH P E ⟨d, .fieldAddr t x f, ty, pos, af, g⟩ W (.pointer (some ⟨b, o + off, none⟩)) W := by
 show (do pure (.value (← Instr.fieldAt t (je E x) f)) : Sem Next).run P W = _
 rw [h]; simp [c b o W]
theorem vO {t : TypeId} {x : Operand} {f off : Nat} {v : Value} {ys : List Value} (zs : List Value) (l : kI P t f off) (p : je E x = v) (n : At μ v ys) (q : (ys.drop off).take zs.length = zs) :
  ∃ h, At μ h zs ∧ ∀ W, kH P E ⟨d, .fieldAddr t x f, ty, pos, af, g⟩ W h W := by
 obtain ⟨b, o, cs, T, fr, rfl, h1, i⟩ := n
 refine ⟨_, ⟨b, o + off, cs, T, fr, rfl, h1, fun j y c => ?_⟩, fun W => jm l p⟩
 have m : j < zs.length := (aY.1 c).1
 have := i (off + j) y (by
  rw [← q, cZ m, dE] at c
  exact c)
 rw [dT]
 exact this
theorem lR {x : Operand} {a : Addr} (b : je E x = .pointer (some a)) : kH P E ⟨d, .nilCheck x, ty, pos, af, g⟩ W (.pointer (some a)) W := by
 unfold kH execOp
 simp [b]
theorem E7 {α : Type} {R : oF α} {k : Nat} {t e : TypeId} {x m : Operand} {U : IntKind} {v : Value} {i : Int} {l : List α} {x0 : α} (M : P.underlying t = some (.slice e)) (he : ∀ w, (sizeOf e).run P w = .ok k w) (O : je E x = v) (I : je E m = .int U i) (L : Sl R k μ v l) (o : 0 ≤ i) (n : l[i.toNat]? = some x0) :
  ∃ p ys, ys.length = k ∧ R μ ys x0 ∧ At μ p ys ∧ ∀ W, kH P E ⟨d, .indexAddr t x m, ty, pos, af, g⟩ W p W := by
 obtain ⟨A, c, rfl, Y, Z, q⟩ := L
 have J : i.toNat < l.length := (aY.1 n).1
 obtain ⟨b, off, cs, T, fr, rfl, r, s⟩ := q (by omega)
 obtain ⟨ys, u, z, h⟩ := s i.toNat x0 n
 refine ⟨.pointer (some ⟨b, off + i.toNat * k, none⟩), ys, u, z, ⟨b, off + i.toNat * k, cs, T, fr, rfl, r, fun j y Q => h j y Q⟩, fun W => ?_⟩
 show (do pure (.value (← Instr.indexAt t (je E x) (je E m))) : Sem Next).run P W = _
 rw [O, I]
 have G : 0 ≤ i ∧ i < (l.length : Int) := ⟨o, by omega⟩
 simp [Instr.indexAt, asIntOf, aR M, he W, G, dt]
theorem pN {α : Type} {enc : α → List Value} {k : Nat} {t e : TypeId} {x b : Operand} {u : IntKind} {v : Value} {i : Int} {l : List α} {x0 : α} (r : P.underlying t = some (.slice e)) (he : ∀ w, (sizeOf e).run P w = .ok k w) (s : je E x = v) (n : je E b = .int u i) (q : Sl (Pl enc) k μ v l) (c : 0 ≤ i) (o : l[i.toNat]? = some x0) :
  ∃ p, At μ p (enc x0) ∧ ∀ W, kH P E ⟨d, .indexAddr t x b, ty, pos, af, g⟩ W p W := by
 obtain ⟨p, ys, h1, h, j, m⟩ := E7 (d := d) (ty := ty) (pos := pos) (af := af) (g := g) r he s n q c o
 cases h
 exact ⟨p, j, m⟩
theorem F4 (P : Program) {W : World} {b off : Nat} {cs : Array Value} {T : TypeId} {fr : Nat × Nat} (c : W.heap[b]? = some (.cells cs T fr)) (ys : List Value) (g : ∀ j y, ys[j]? = some y → cs[off + j]? = some y) :
  (loadCells ⟨b, off, none⟩ ys.length).run P W = .ok ys.toArray W :=
 run_loadCells_list W ⟨b, off, none⟩ ys (fun j v d => by rw [dt, fh W b (off + j) cs T fr c]; exact g j v d)
theorem Ab {W : World} {t : TypeId} {b off : Nat} {cs : Array Value} {T : TypeId} {fr : Nat × Nat} (c : ∀ w, (isAgg t).run P w = .ok true w) (ys : List Value) (d : ∀ w, (sizeOf t).run P w = .ok ys.length w) (g : W.heap[b]? = some (.cells cs T fr)) (h : ∀ j y, ys[j]? = some y → cs[off + j]? = some y) : (Instr.loadAt t (.pointer (some ⟨b, off, none⟩))).run P W = .ok (.agg ys.toArray) W := by
 simp [Instr.loadAt, Instr.sureAddr, loadVar, c W, d W, F4 P g ys h]
theorem Ad {W : World} {t : TypeId} {b off : Nat} {cs : Array Value} {T : TypeId} {fr : Nat × Nat} (c : ∀ w, (isAgg t).run P w = .ok false w) {y : Value} (d : W.heap[b]? = some (.cells cs T fr)) (h : cs[off]? = some y) : (Instr.loadAt t (.pointer (some ⟨b, off, none⟩))).run P W = .ok y W := by
 have g : W.cell? ⟨b, off, none⟩ = some y := by rw [fh W b off cs T fr d]; exact h
 simp [Instr.loadAt, Instr.sureAddr, loadVar, c W, load, Sem.run, g]
theorem jd {t : TypeId} {x : Operand} {a v : Value} (c : je E x = a) (b : (Instr.loadAt t a).run P W = .ok v W) : kH P E ⟨d, .load t x, ty, pos, af, g⟩ W v W := by
 show (do pure (.value (← Instr.loadAt t (je E x))) : Sem Next).run P W = _
 rw [c]; simp [b]
def mI (μ : jx) (A : List (Nat × Obj)) (W : World) : Prop := (∀ b o, μ b = some o → W.heap[b]? = some o) ∧ ∀ b o, (b, o) ∈ A → W.heap[b]? = some o
theorem ST.has (h : ST dd F w W μ L) : mI μ L W := ⟨h.mem, fun b o c => (h.box b o c).1⟩
theorem mI.sub {μ' : jx} {A A' : List (Nat × Obj)} (h : mI μ A W) (g : jC μ' μ) (d : ∀ p, p ∈ A' → p ∈ A) : mI μ' A' W := ⟨fun b o c => h.1 b o (g b o c), fun b o c => h.2 b o (d _ c)⟩
theorem jJ {A : List (Nat × Obj)} (hH : mI μ A W) {t : TypeId} {p : Value} {ys : List Value} (hp : At μ p ys) (d : ∀ w, (isAgg t).run P w = .ok true w) (g : ∀ w, (sizeOf t).run P w = .ok ys.length w) :
  (Instr.loadAt t p).run P W = .ok (.agg ys.toArray) W := by
 obtain ⟨b, off, cs, T, fr, rfl, h1, c⟩ := hp
 exact Ab d ys g (hH.1 _ _ h1) c
theorem oL {A : List (Nat × Obj)} (hH : mI μ A W) {t : TypeId} {p y : Value} (hp : At μ p [y]) (d : ∀ w, (isAgg t).run P w = .ok false w) :
  (Instr.loadAt t p).run P W = .ok y W := by
 obtain ⟨b, off, cs, T, fr, rfl, h1, c⟩ := hp
 exact Ad d (hH.1 _ _ h1) (c 0 y rfl)
theorem jl {A : List (Nat × Obj)} (hH : mI μ A W) {t : TypeId} {b off : Nat} {cs : Array Value} {T : TypeId} {fr : Nat × Nat} (h : (b, Obj.cells cs T fr) ∈ A) (ys : List Value) (l : (cs.toList.drop off).take ys.length = ys) (g : ∀ w, (isAgg t).run P w = .ok true w) (i : ∀ w, (sizeOf t).run P w = .ok ys.length w) : (Instr.loadAt t (.pointer (some ⟨b, off, none⟩))).run P W = .ok (.agg ys.toArray) W :=
 Ab g ys i (hH.2 _ _ h) (fun j y c => by
  have d : j < ys.length := (aY.1 c).1
  rw [← l, cZ d, dE] at c
  simpa using c)
theorem jA {A : List (Nat × Obj)} (hH : mI μ A W) {t : TypeId} {b off : Nat} {cs : Array Value} {T : TypeId} {fr : Nat × Nat} (d : (b, Obj.cells cs T fr) ∈ A) {y : Value} (g : cs[off]? = some y) (c : ∀ w, (isAgg t).run P w = .ok false w) : (Instr.loadAt t (.pointer (some ⟨b, off, none⟩))).run P W = .ok y W :=
 Ad c (hH.2 _ _ d) g
theorem lY {t : TypeId} {b : Array (Nat × Operand)} {c : Array (Nat × Value)} {v : Value} (h : b.map (fun (i, x) => (i, je E x)) = c) (j : ∀ W, (Instr.build t c).run P W = .ok v W) : kH P E ⟨d, .build t b, ty, pos, af, g⟩ W v W := by
 show (do pure (.value (← Instr.build t (b.map fun (i, x) => (i, je E x)))) : Sem Next).run P W = _
 rw [h]; simp [j W]
theorem li {t : TypeId} {z cs : Array Value} {b : Array Field} {c : Array (Nat × Value)} {pl : Array (Nat × Nat)} (h : ∀ w, (zeroValue t).run P w = .ok (.agg z) w) (g : P.underlying t = some (.struct b)) (hp : ∀ w, (b.mapM fun f => do pure (f.offset, ← sizeOf f.type) : Sem (Array (Nat × Nat))).run P w = .ok pl w) (d : Instr.fill (pl[·]?) z c.toList = some cs) (W : World) : (Instr.build t c).run P W = .ok (.agg cs) W := by
 simp only [Instr.build, bY, h W, bK, aR g, Value.cells]
 rw [hp W]
 simp only [bK, d, cW]
end
theorem Ch {α : Type} : ∀ (a : Ask α) (w : World), w.drawn ≤ (w.ask a).2.drawn
 | .done a, w => by simp [World.ask]
 | .ask b range k, w => by
  unfold World.ask
  dsimp only
  split
  ·exact Ch (k 0) w
  ·refine dr (gV w.drawn) ?_
   exact Ch _ { w with drawn := w.drawn + 1 }
theorem KI (w : World) (c : Sys) : w.drawn ≤ (w.sys c).2.drawn := by
 have h := Ch (Kernel.perform c w.os) w
 unfold World.sys
 generalize w.ask (Kernel.perform c w.os) = r at *
 obtain ⟨⟨b, d⟩, g⟩ := r
 cases b <;> simp at h ⊢ <;> exact h
theorem EC {p : Program} {w c : World} {a : Addr} {u : TypeId} {k : Addr} {v : Value} {b : Bool} {l : List Addr} (h : w.viewStore p a u k v b = .ok (c, l)) : c.drawn = w.drawn := by
 unfold World.viewStore at h
 simp only [bind, Except.bind, pure, Except.pure] at h
 split at h
 ·cases h
 ·split at h
  ·cases h
  ·split at h
   ·split at h
    ·cases h
    ·split at h
     ·cases h
     ·cases h; rfl
   ·cases h
theorem Fj {p : Program} {w c : World} {a : Addr} {v : Value} {b : Bool} {l : List Addr} (h : w.farStore p a v b = .ok (c, l)) : c.drawn = w.drawn := by
 unfold World.farStore at h
 split at h
 ·split at h
  ·rename_i h1; cases h; exact EC h1
  ·cases h
 ·cases h
theorem ng {α : Type} {p : Program} : ∀ (s : Sem α) (w d : World) (a : α), s.run p w = .ok a d → w.drawn ≤ d.drawn
 | .pure a, w, d, b, h => by simp only [Sem.run] at h; cases h; exact aQ _
 | .load m a k, w, d, b, h => by
  simp only [Sem.run] at h
  split at h
  ·exact ng _ _ _ _ h
  ·split at h
   ·exact ng _ _ _ _ h
   ·cases h
 | .store m a v k, w, d, b, h => by
  have key : ∀ (r : Result α) i, r = .ok b d → (r = (match w.cell? a with
    | some _ => if w.frozen? a then .halt i w else k.run p (w.setCell a v)
    | none => match w.farStore p a v (m == .atomic) with
     | .ok (w, _) => k.run p w
     | .error h => .halt h w)) → w.drawn ≤ d.drawn := by
   intro r i j h
   rw [j] at h
   split at h
   ·split at h
    ·cases h
    ·have := ng k _ _ _ h.symm
     simpa [World.setCell] using this
   ·split at h
    ·rename_i h1
     have g := ng k _ _ _ h.symm
     rw [Fj h1] at g
     exact g
    ·cases h
  cases v with
  | agg cs => simp only [Sem.run] at h; cases h
  | tuple cs => simp only [Sem.run] at h; cases h
  | _ => exact key _ _ h (by simp only [Sem.run]; rfl)
 | .new o k, w, d, b, h => by simp only [Sem.run] at h; have := ng (k _) _ _ _ h; exact this
 | .shape r k, w, d, b, h => by simp only [Sem.run] at h; exact ng _ _ _ _ h
 | .freeze a n k, w, d, b, h => by
  simp only [Sem.run] at h
  have := ng k _ _ _ h
  unfold World.freeze at this
  split at this <;> exact this
 | .frozen a k, w, d, b, h => by simp only [Sem.run] at h; exact ng _ _ _ _ h
 | .getObj r k, w, d, b, h => by
  simp only [Sem.run] at h
  split at h <;> try (cases h; done)
  exact ng _ _ _ _ h
 | .setObj r o k, w, d, b, h => by
  simp only [Sem.run] at h
  split at h <;> try (cases h; done)
  have := ng k _ _ _ h
  exact this
 | .choose q k, w, d, b, h => by
  simp only [Sem.run] at h
  split at h
  ·exact ng _ _ _ _ h
  ·exact dr (gV _) (ng _ _ _ _ h)
 | .sys c k, w, d, b, h => by
  simp only [Sem.run] at h
  exact dr (KI w c) (ng _ _ _ _ h)
 | .program k, w, d, b, h => by simp only [Sem.run] at h; exact ng _ _ _ _ h
 | .mark m k, w, d, b, h => by simp only [Sem.run] at h; exact ng k _ _ _ h
 | .halt x, w, d, b, h => by simp only [Sem.run] at h; cases h
end Go.Proofs.YtjjjihkifgdhgaaGreatDoor
namespace Go.Proofs.YtjjjihkifgdhgaaGreatDoor
open Go.RowKit
variable [M : Md]
variable {dd : Bool}
section
variable {P : Program} {n : Nat} {Q : oP} {E : Nat → Value} {W : World} {ops : Array Oper} {rest : List Oper}
 {d : Option Nat} {ty : TypeId} {pos : String} {af : Array Edge} {g : Option (Nat × Bool)}
 {F : Nat → Prop} {w : World} {μ : jx} {L : List (Nat × Obj)}
def ma (P : Program) (E : Nat → Value) (o : Oper) (W : World) (K : Value → World → Prop) : Prop :=
 (∃ v W', (execOp (je E) o).run P W = .ok (.value v) W' ∧ K v W') ∨ (∃ W', (execOp (je E) o).run P W = .ok .skip W' ∧ K undef W') ∨
 (∃ f args, (execOp (je E) o).run P W = .ok (.enter f args) W ∧ Calls P f args W fun e b => ∃ v, e = .returned v ∧ K v b)
theorem ma.mono {o : Oper} {K K' : Value → World → Prop} (h : ma P E o W K) (hk : ∀ v W', K v W' → K' v W') : ma P E o W K' := by
 rcases h with ⟨v, W', h1, b⟩ | ⟨W', h1, b⟩ | ⟨f, args, h1, b⟩
 ·exact .inl ⟨v, W', h1, hk _ _ b⟩
 ·exact .inr (.inl ⟨W', h1, hk _ _ b⟩)
 ·exact .inr (.inr ⟨f, args, h1, cR b (fun _ _ ⟨v, c, d⟩ => ⟨v, c, hk _ _ d⟩)⟩)
theorem N1 {o : Oper} {dd : Nat} (hw : sh n ops E o) (c : o.dst = some dd) (d : dd < n) (h : ma P E o W fun v W' => LW P n ops Q rest (nC E dd v) W') : LW P n ops Q (o :: rest) E W := by
 rcases h with ⟨v, W', h1, b⟩ | ⟨W', h1, b⟩ | ⟨f, args, h1, b⟩
 ·exact JM hw c d h1 b
 ·intro a ha
  unfold wpListIn
  rw [aW (hw.of ha)]
  unfold Oper.wpIn
  refine ⟨fun _ _ => trivial, ?_⟩
  rw [ha.eval, wO h1 (by simp), Oper.uponIn_skip, c]
  exact b _ (ha.put d _)
 ·exact Lw hw c d h1 b
theorem OW {o : Oper} (hw : sh n ops E o) (c : o.dst = none) (h : ma P E o W fun _ W' => LW P n ops Q rest E W') : LW P n ops Q (o :: rest) E W := by
 rcases h with ⟨v, W', h1, b⟩ | ⟨W', h1, b⟩ | ⟨f, args, h1, b⟩
 ·intro a ha
  unfold wpListIn
  rw [aW (hw.of ha)]
  unfold Oper.wpIn
  refine ⟨fun _ _ => trivial, ?_⟩
  rw [ha.eval, wO h1 (by simp), Oper.uponIn_value, c]
  exact b _ (ha.xe _)
 ·exact LH hw c h1 b
 ·intro a ha
  unfold wpListIn
  rw [aW (hw.of ha)]
  unfold Oper.wpIn
  refine ⟨fun _ _ => trivial, ?_⟩
  rw [ha.eval, wO h1 (by simp), Oper.uponIn_enter]
  refine E2 (cR b ?_)
  rintro e g ⟨v, rfl, d⟩
  simp only [c]
  exact d _ (ha.xe _)
theorem jZ {K : Value → World → Prop} {t : TypeId} {x : Operand} {v : Value} (c : ST dd F w W μ L) (i : je E x = v) (h : ∀ W' b, ST dd F w W' μ ((b, .cells v.cells t (0, 0)) :: L) → K (.pointer (some ⟨b, 0, none⟩)) W') : ma P E ⟨d, .box t x, ty, pos, af, g⟩ W K :=
 .inl ⟨.pointer (some ⟨W.heap.size, 0, none⟩), W.alloc (.cells v.cells t (0, 0)), by
   show (do pure (.value (← Instr.box t (je E x))) : Sem Next).run P W = _
   rw [i]
   simp [Instr.box, newVar, newRow, newObj, Sem.run], h _ _ (c.alloc _)⟩
theorem kq {K : Value → World → Prop} {t : TypeId} {z : Value} (c : ST dd F w W μ L) (i : ∀ w, (zeroValue t).run P w = .ok z w) (h : ∀ W' b, ST dd F w W' μ ((b, .cells z.cells t (0, 0)) :: L) → K (.pointer (some ⟨b, 0, none⟩)) W') : ma P E ⟨d, .alloc t, ty, pos, af, g⟩ W K :=
 .inl ⟨.pointer (some ⟨W.heap.size, 0, none⟩), W.alloc (.cells z.cells t (0, 0)), by
   show (do pure (.value (← Instr.alloc t true (.tuple #[]))) : Sem Next).run P W = _
   simp [Instr.alloc, i W, newVar, newRow, newObj, Sem.run], h _ _ (c.alloc _)⟩
theorem EW {t e : TypeId} {m k : Nat} {z : Value} {d : Array (Nat × Value)} {cs : Array Value} (h : P.underlying t = some (.slice e)) (g : ∀ w, (sizeOf e).run P w = .ok k w) (j : ∀ w, (zeroValue e).run P w = .ok z w) (hm : m * k ≤ 16777216) (b : Instr.fill (fun i => some (i * k, k)) ((Array.range (m * k)).map (fun i => (if m * k = 0 then (#[] : Array Value) else z.cells)[i % (if m * k = 0 then (#[] : Array Value) else z.cells).size]!)) d.toList = some cs) (W : World) :
  (Instr.buildSlice t m d).run P W = .ok (.slice (some ⟨W.heap.size, 0, none⟩) m m) (W.alloc (.cells cs e (0, 0))) := by
 simp only [Instr.buildSlice, bY, aR h, bK, g W]
 rw [aU (by omega)]
 by_cases c : m * k = 0
 ·simp only [c, aJ] at b ⊢
  simp only [bY, cW, bK, b]
  simp [newRow, newObj, Sem.run]
 ·simp only [c, aF] at b ⊢
  simp only [bY, j W, cW, bK, b]
  simp [newRow, newObj, Sem.run]
theorem km {K : Value → World → Prop} {t e : TypeId} {m : Nat} {j : Array (Nat × Operand)} {l : Array (Nat × Value)} {cs : Array Value} (c : ST dd F w W μ L) (n : j.map (fun (i, x) => (i, je E x)) = l) (o : ∀ W, (Instr.buildSlice t m l).run P W = .ok (.slice (some ⟨W.heap.size, 0, none⟩) m m) (W.alloc (.cells cs e (0, 0)))) (h : ∀ W' b, ST dd F w W' μ ((b, .cells cs e (0, 0)) :: L) → K (.slice (some ⟨b, 0, none⟩) m m) W') : ma P E ⟨d, .buildSlice t m j, ty, pos, af, g⟩ W K :=
 .inl ⟨.slice (some ⟨W.heap.size, 0, none⟩) m m, W.alloc (.cells cs e (0, 0)), by
   show (do pure (.value (← Instr.buildSlice t m (j.map fun (i, x) => (i, je E x)))) : Sem Next).run P W = _
   rw [n]
   simp [o W], h _ _ (c.alloc _)⟩
theorem ST.store {A B : List (Nat × Obj)} {b : Nat} {cs : Array Value} {t : TypeId} (d : ST dd F w W μ (A ++ (b, .cells cs t (0, 0)) :: B)) (c : Array Value) :
  ST dd F w (W.setRow b c) μ (A ++ (b, .cells c t (0, 0)) :: B) := by
 have g := (d.box b _ (by simp : (b, Obj.cells cs t (0, 0)) ∈ A ++ (b, .cells cs t (0, 0)) :: B)).1
 refine d.put ⟨rfl, rfl, rfl, aQ _, by simp [World.setRow]⟩ (fun k hk => ?_) (setRow_heap W b cs c t (0, 0) g)
 simp only [World.setRow, dA]
 rw [aU (fun e => hk e.symm)]
theorem Ai (P : Program) {W : World} {t : TypeId} {b off : Nat} {cs : Array Value} {T : TypeId} (v : Value) (c : ∀ w, (sizeOf t).run P w = .ok v.cells.size w) (h1 : ∀ u ∈ v.cells.toList, u.oneCell' = true) (d : W.heap[b]? = some (.cells cs T (0, 0))) (g : off + v.cells.size ≤ cs.size) : (Instr.storeAt t (.pointer (some ⟨b, off, none⟩)) v).run P W = .ok () (W.setRow b (cs.toList.take off ++ v.cells.toList ++ cs.toList.drop (off + v.cells.size)).toArray) := by
 have := gW (P := P) b off T v.cells.toList 0 cs W d (by simpa using g) h1
 simp [Instr.storeAt, Instr.sureAddr, storeVar, c W]
 simpa using this
theorem Nj {K : Value → World → Prop} (A : List (Nat × Obj)) {B : List (Nat × Obj)} {t : TypeId} {x y : Operand} (v : Value) {b off : Nat} {cs : Array Value} {T : TypeId} (c : Array Value) (i : ST dd F w W μ (A ++ (b, .cells cs T (0, 0)) :: B)) (o : je E x = .pointer (some ⟨b, off, none⟩)) (p : je E y = v) (j : ∀ w, (sizeOf t).run P w = .ok v.cells.size w) (h1 : ∀ u ∈ v.cells.toList, u.oneCell' = true) (n : off + v.cells.size ≤ cs.size) (m : (cs.toList.take off ++ v.cells.toList ++ cs.toList.drop (off + v.cells.size)).toArray = c) (h : ∀ W', ST dd F w W' μ (A ++ (b, .cells c T (0, 0)) :: B) → K undef W') : ma P E ⟨d, .store t x y, ty, pos, af, g⟩ W K :=
 .inr (.inl ⟨W.setRow b c, by
   show (do Instr.storeAt t (je E x) (je E y); pure .skip : Sem Next).run P W = _
   have l := (i.box b _ (by simp : (b, Obj.cells cs T (0, 0)) ∈ A ++ (b, .cells cs T (0, 0)) :: B)).1
   rw [o, p]
   simp only [bY, Ai P v j h1 l n, m, bK, cW], h _ (i.store c)⟩)
def jO (dd : Bool) (P : Program) (f : FuncId) (args : List Value) (w : World) (v : Value) : Prop := Calls P f args.toArray w fun e b => e = .returned v ∧ Ex dd w b
theorem JG {f : FuncId} {fv : Operand} {ax : Array Operand} {ats : Array TypeId} {b args : Array Value} (c : je E fv = .func (.func f) #[] b) (he : ∀ args w, (callFunc f args).run P w = .ok (.enter f args) w) (ha : ax.map (je E) ++ b = args) :
  (execOp (je E) ⟨d, .call ⟨.value fv, ax, ats⟩, ty, pos, af, g⟩).run P W = .ok (.enter f args) W := by
 show (do let d ← resolve (je E) ⟨.value fv, ax, ats⟩ ty; invoke d.target d.args : Sem Next).run P W = _
 rw [← ha]
 simp only [resolve, c, Deferred.ofValue, bY, cW, bK, invoke]
 simp [he]
theorem CG {K : Value → World → Prop} {f : FuncId} {fv : Operand} {ax : Array Operand} {ats : Array TypeId} {b args : Array Value} (c : je E fv = .func (.func f) #[] b) (he : ∀ args w, (callFunc f args).run P w = .ok (.enter f args) w) (ha : ax.map (je E) ++ b = args) (h : Calls P f args W fun e i => ∃ v, e = .returned v ∧ K v i) : ma P E ⟨d, .call ⟨.value fv, ax, ats⟩, ty, pos, af, g⟩ W K :=
 .inr (.inr ⟨f, args, JG c he ha, h⟩)
theorem Ni {K : Value → World → Prop} {f : FuncId} {fv : Operand} {ax : Array Operand} {ats : Array TypeId} {args : List Value} {v : Value} (b : ST dd F w W μ L) (j : je E fv = .func (.func f) #[] #[]) (he : ∀ args w, (callFunc f args).run P w = .ok (.enter f args) w) (ha : (ax.map (je E) ++ (#[] : Array Value)) = args.toArray) (i : jO dd P f args W v) (h : ∀ W', ST dd F w W' μ L → K v W') : ma P E ⟨d, .call ⟨.value fv, ax, ats⟩, ty, pos, af, g⟩ W K :=
 CG j he ha (cR i (fun _ _ ⟨h1, c⟩ => ⟨v, h1, h _ (b.Ew c)⟩))
def jw {α : Type} (e : TypeId) (enc : α → List Value) (k : Nat) (v : Value) (l : List α) (R : List (Nat × Obj)) : Prop :=
 (v = .slice none 0 0 ∧ l = [] ∧ R = []) ∨
 ∃ g cap b, v = .slice (some ⟨g, 0, none⟩) l.length cap ∧ R = [(g, .cells b e (0, 0))] ∧ l.length ≤ cap ∧ cap ≤ maxLen ∧ b.size = cap * k ∧ b.toList.take (l.length * k) = (l.map enc).flatten
theorem oy {α : Type} {enc : α → List Value} {k : Nat} (hk : ∀ x, (enc x).length = k) : ∀ l : List α, (l.map enc).flatten.length = l.length * k
 | [] => by simp
 | x :: l => by simp [oy hk l, hk x, cH, Nat.add_comm]
theorem vu {α : Type} {enc : α → List Value} {k : Nat} (hk : ∀ x, (enc x).length = k) : ∀ (l : List α) (i : Nat) (x : α), l[i]? = some x → ∀ j y, (enc x)[j]? = some y → (l.map enc).flatten[i * k + j]? = some y
 | [], i, x, h => by cases h
 | z :: l, 0, x, h => by
  simp at h; subst h
  intro j y b
  have c : j < (enc z).length := (aY.1 b).1
  simp [fi, c]
  rw [dx c] at b
  simpa using b
 | z :: l, i + 1, x, h => by
  intro j y b
  have := vu hk l i x (by simpa using h) j y b
  simp only [bI, bH]
  rw [ev (by rw [hk z]; have := Nat.le_mul_of_pos_left k (Nat.succ_pos i); simp [cH] at *; omega), hk z]
  rw [show (i + 1) * k + j - k = i * k + j by rw [cH]; omega]
  exact this
theorem DG {α : Type} {enc : α → List Value} {k : Nat} (hk : ∀ x, (enc x).length = k) : ∀ (l : List α) (q : Nat) (y : Value), (l.map enc).flatten[q]? = some y → ∃ i x j, l[i]? = some x ∧ (enc x)[j]? = some y ∧ q = i * k + j
 | [], q, y, h => by simp at h
 | z :: l, q, y, h => by
  simp only [bI, bH] at h
  by_cases c : q < k
  ·rw [ft (by rw [hk]; exact c)] at h
   exact ⟨0, z, q, rfl, h, by simp⟩
  ·rw [ev (by rw [hk]; omega), hk] at h
   obtain ⟨i, x, j, h1, b, d⟩ := DG hk l (q - k) y h
   exact ⟨i + 1, x, j, by simpa using h1, b, by rw [cH]; omega⟩
theorem jw.nil {α : Type} (e : TypeId) (enc : α → List Value) (k : Nat) : jw e enc k (.slice none 0 0) [] [] := .inl ⟨rfl, rfl, rfl⟩
theorem jw.sl {α : Type} {e : TypeId} {enc : α → List Value} {k : Nat} {v : Value} {l : List α} {R : List (Nat × Obj)} {m : jx} (h : jw e enc k v l R) (hk : ∀ x, (enc x).length = k) (hm : ∀ b o, (b, o) ∈ R → m b = some o) : Sl (Pl enc) k m v l := by
 rcases h with ⟨rfl, rfl, rfl⟩ | ⟨g, cap, c, rfl, rfl, h1, n, s, p⟩
 ·exact Sl.nil _ _ _
 ·refine ⟨_, cap, rfl, h1, n, fun _ => ⟨g, 0, c, e, (0, 0), rfl, hm _ _ (by simp), fun i x q => ⟨enc x, hk x, rfl, fun j y r => ?_⟩⟩⟩
  have := vu hk l i x q j y r
  rw [← p] at this
  have d : i * k + j < l.length * k := by
   have := (aY.1 this).1
   simp at this; omega
  rw [cZ d] at this
  simpa using this
theorem jw.len {α : Type} {e : TypeId} {enc : α → List Value} {k : Nat} {v : Value} {l : List α} {R : List (Nat × Obj)} (h : jw e enc k v l R) : l.length ≤ 9223372036854775807 := by
 rcases h with ⟨rfl, rfl, rfl⟩ | ⟨g, cap, b, rfl, rfl, h1, c, d, i⟩
 ·simp
 ·unfold maxLen at c; omega
theorem jw.fr {α : Type} {e : TypeId} {enc : α → List Value} {k : Nat} {v : Value} {l : List α} {R X Y : List (Nat × Obj)} (h : jw e enc k v l R) (c : ST dd lG w W μ (X ++ (R ++ Y))) : Fr w.heap.size v := by
 rcases h with ⟨rfl, rfl, rfl⟩ | ⟨g, cap, i, rfl, rfl, h1, j, m, n⟩
 ·exact Fr.nil _
 ·intro b d
  simp [Value.ownBlock] at d
  subst d
  rcases (c.box g _ (by simp; exact .inr (.inl rfl))).2.2 with h | h
  ·exact h
  ·exact h.elim
theorem jw.lit {α : Type} {e : TypeId} {enc : α → List Value} {k b m : Nat} {l : List α} {cs : Array Value} (hm : l.length = m) (d : m ≤ maxLen) (g : cs.toList = (l.map enc).flatten) (c : cs.size = m * k) : jw e enc k (.slice (some ⟨b, 0, none⟩) m m) l [(b, .cells cs e (0, 0))] := by
 subst hm
 refine .inr ⟨b, _, cs, rfl, rfl, aQ _, d, c, ?_⟩
 rw [← g, ← c]
 exact du (by rw [dz]; exact aQ _)
def kN {α : Type} (b : Nat) (l m : List α) : Option (List α) := if (l.length + m.length) * b ≤ 140737488355328 ∧ l.length + m.length ≤ maxLen then some (l ++ m) else none
theorem Hg {K : Value → World → Prop} {α : Type} {e t : TypeId} {enc : α → List Value} {k ab : Nat} {z v vs : Value} {l m r : List α} {R : List (Nat × Obj)} (X : List (Nat × Obj)) {Y : List (Nat × Obj)} {x y : Operand} {i : TypeInfo} (p : ST dd F w W μ (X ++ (R ++ Y))) (hk : ∀ x, (enc x).length = k) (b2 : 0 < k) (h1 : ∀ x, ∀ u ∈ enc x, u.oneCell' = true) (ht : P.underlying t = some (.slice e)) (hi : P.info? e = some i) (hz : i.zero = some z) (b6 : z.cells.size = k) (b3 : i.size = k) (b0 : i.bytes = ab) (hx : je E x = v) (hy : je E y = vs) (hR : jw e enc k v l R) (hs : Sl (Pl enc) k (hp W) vs m) (n : kN ab l m = some r) (h : ∀ W' v' R', ST dd F w W' μ (X ++ (R' ++ Y)) → jw e enc k v' r R' → K v' W') : ma P E ⟨d, .call ⟨.builtin .append, #[x, y], #[t, t]⟩, ty, pos, af, g⟩ W K := by
 unfold kN at n
 split at n
 case isFalse => cases n
 rename_i aj
 cases n
 have aa : ∀ (V : Value) (W' : World), (Builtin.append_ #[t, t] ty #[v, vs]).run P W = .ok V W' → (execOp (je E) ⟨d, .call ⟨.builtin .append, #[x, y], #[t, t]⟩, ty, pos, af, g⟩).run P W = .ok (.value V) W' := by
  intro V W' hV
  show (do let d ← resolve (je E) ⟨.builtin .append, #[x, y], #[t, t]⟩ ty; invoke d.target d.args : Sem Next).run P W = _
  simp [resolve, invoke, builtin, hx, hy, hV]
 obtain ⟨A, c, rfl, ba, bc, b1⟩ := hs
 have a8 : W.ownsRow 0 e k v l.length (l.map enc).flatten := by
  refine ⟨oy hk l, ?_⟩
  rcases hR with ⟨rfl, rfl, rfl⟩ | ⟨g, cap, J, rfl, rfl, h1, h2, h3, h4⟩
  ·exact .inl ⟨rfl, rfl⟩
  ·exact .inr ⟨g, cap, J, rfl, fM _, (p.box g _ (by simp)).1, h1, h2, h3, h4⟩
 have au : m.length = 0 ∨ ∃ ad, A = some ad ∧ ∀ j u, (m.map enc).flatten[j]? = some u → W.cell? (ad.add j) = some u := by
  rcases dY m.length with O | O
  ·exact .inl O
  ·obtain ⟨b, off, cs, T, fr, rfl, h6, h7⟩ := b1 O
   refine .inr ⟨⟨b, off, none⟩, rfl, fun j u hu => ?_⟩
   obtain ⟨i, x, q, h8, h9, rfl⟩ := DG hk m j u hu
   obtain ⟨ys, _, aw, ay⟩ := h7 i x h8
   cases aw
   rw [dt, fh W b (off + (i * k + q)) cs T fr h6, ← dT]
   exact ay q u h9
 have ar : ∀ u ∈ (m.map enc).flatten, u.oneCell' = true := by
  intro u hu
  obtain ⟨ys, b5, b4⟩ := iz.1 hu
  obtain ⟨x, _, rfl⟩ := bG.1 b5
  exact h1 x u b4
 by_cases ao : m.length = 0
 ·have hm : m = [] := aN ao
  subst hm
  have hr : (Builtin.append_ #[t, t] ty #[v, .slice A 0 c]).run P W = .ok v W := by
   rcases a8.2 with ⟨rfl, O⟩ | ⟨g, cap, J, rfl, _, hg, ap, _, bd, _⟩
   ·cases A with
    | none => simp [Builtin.append_, aR ht, sizeOf, typeInfo, hi, Builtin.lenOf, Builtin.firstCells]
    | some ad => simp [Builtin.append_, aR ht, sizeOf, typeInfo, hi, Builtin.lenOf, Builtin.firstCells, loadCells, loadCellsFrom]
   ·cases A with
    | none => simp [Builtin.append_, aR ht, sizeOf, typeInfo, hi, Builtin.lenOf, Builtin.firstCells, ap, storeCells]
    | some ad => simp [Builtin.append_, aR ht, sizeOf, typeInfo, hi, Builtin.lenOf, Builtin.firstCells, loadCells, loadCellsFrom, ap, storeCells]
  exact .inl ⟨v, W, aa _ _ (by simpa using hr), by simpa using h W v R p (by simpa using hR)⟩
 rcases au with O | ⟨ad, rfl, a1⟩
 ·exact absurd O ao
 obtain ⟨v', W', hr, ah, s, b9, M⟩ := run_append_own_at (P := P) W 0 t ty e i z k ab ht hi hz b3 b0 b6 b2 v l.length (l.map enc).flatten a8 ad m.length c (m.map enc).flatten (oy hk m) a1 ar aj.2 aj.1 (fM _)
 have ae := ng _ _ _ _ hr
 refine .inl ⟨v', W', aa _ _ hr, ?_⟩
 have hlen : (l ++ m).length = l.length + m.length := by simp
 rcases ah.2 with ⟨_, O⟩ | ⟨U, a6, a7, rfl, _, ag, b7, ak, al, av⟩
 ·omega
 have ai : jw e enc k (.slice (some ⟨U, 0, none⟩) (l.length + m.length) a6) (l ++ m) [(U, .cells a7 e (0, 0))] :=
  .inr ⟨U, a6, a7, by rw [hlen], rfl, by omega, ak, al, by rw [hlen, av]; simp⟩
 refine h W' _ _ ?_ ai
 have aq := p.nd
 rcases hR with ⟨rfl, rfl, rfl⟩ | ⟨g, cap, J, rfl, rfl, q1, q2, q3, q4⟩
 ·-- nil: a new block
  have Z : W.heap.size ≤ U := by
   rcases M with h | h <;> simp [Value.ownBlock] at h
   omega
  have hex : Ex dd W W' := ⟨s.os, s.tape, s.output, qI.of ae, s.size, fun b n => s.block b n (by simp [Value.ownBlock])⟩
  have h1 := p.Ew hex
  refine ⟨h1.os, h1.tape, h1.output, h1.drawn, h1.size, h1.kO, h1.mem, fun b o n => ?_, ?_⟩
  ·simp only [aO, cK] at n
   rcases n with n | n | n
   ·exact h1.box b o (by simp [n])
   ·cases n
    refine ⟨ag, ?_, .inl (dr p.size Z)⟩
    cases hm : μ U with
    | none => rfl
    | some x => have := p.AV hm; omega
   ·exact h1.box b o (by simp [n])
  ·simp only [aX, bV, bI, eW] at aq ⊢
   refine (fw eu).2 (cT.2 ⟨fun hm => ?_, aq⟩)
   rw [← bV] at hm
   obtain ⟨⟨b, o⟩, n, L⟩ := bG.1 hm
   have aE : (b, o) ∈ X ++ ([] ++ Y) := by simpa using n
   have := p.BQ aE
   simp at L
   omega
 ·by_cases an : U = g
  ·subst an
   have O : ST dd F w W μ (X ++ (U, Obj.cells J e (0, 0)) :: Y) := by simpa using p
   have hold : ∀ b, b < W.heap.size → b ≠ U → W'.heap[b]? = W.heap[b]? := fun b n I => s.block b n (by simp [Value.ownBlock]; exact I)
   have G := O.nd
   simp only [bV, bI] at G
   have I : ∀ b o, (b, o) ∈ X ++ Y → b ≠ U := fun b o n L => by
    subst L
    rcases aO.1 n with n | n
    ·exact (bO.1 G).2.2 b (bG.2 ⟨_, n, rfl⟩) b (by simp) rfl
    ·exact (cT.1 (bO.1 G).2.1).1 (bG.2 ⟨_, n, rfl⟩)
   have Q := O.box U (Obj.cells J e (0, 0)) (by simp)
   refine ⟨s.os.trans p.os, s.tape.trans p.tape, s.output.trans p.output, qI.trans p.drawn (qI.of ae), dr p.size s.size, fun b n hF => ?_, fun b o n => ?_, fun b o n => ?_, by simpa using G⟩
   ·rw [hold b (dM n p.size) (fun L => by subst L; rcases Q.2.2 with h | h; omega; exact hF h)]
    exact p.kO b n hF
   ·rw [hold b (p.AV n) (fun L => by subst L; rw [Q.2.1] at n; cases n)]
    exact p.mem b o n
   ·simp only [aO, cK] at n
    rcases n with n | n | n
    ·obtain ⟨r1, r2⟩ := p.box b o (by simp [n])
     exact ⟨by rw [hold b (mR r1) (I b o (by simp [n]))]; exact r1, r2⟩
    ·cases n; exact ⟨ag, Q.2⟩
    ·obtain ⟨r1, r2⟩ := p.box b o (by simp [n])
     exact ⟨by rw [hold b (mR r1) (I b o (by simp [n]))]; exact r1, r2⟩
  ·have Z : W.heap.size ≤ U := by
    rcases M with h | h <;> simp [Value.ownBlock] at h
    ·exact absurd h an
    ·omega
   have O : ST dd F w W μ (X ++ (g, Obj.cells J e (0, 0)) :: Y) := by simpa using p
   have Q := O.box g (Obj.cells J e (0, 0)) (by simp)
   have G := O.nd
   simp only [bV, bI] at G
   have I : ∀ b o, (b, o) ∈ X ++ Y → b ≠ g := fun b o n L => by
    subst L
    rcases aO.1 n with n | n
    ·exact (bO.1 G).2.2 b (bG.2 ⟨_, n, rfl⟩) b (by simp) rfl
    ·exact (cT.1 (bO.1 G).2.1).1 (bG.2 ⟨_, n, rfl⟩)
   have hold : ∀ b, b < W.heap.size → b ≠ g → W'.heap[b]? = W.heap[b]? := fun b n I => s.block b n (by simp [Value.ownBlock]; exact I)
   refine ⟨s.os.trans p.os, s.tape.trans p.tape, s.output.trans p.output, qI.trans p.drawn (qI.of ae), dr p.size s.size, fun b n hF => ?_, fun b o n => ?_, fun b o n => ?_, ?_⟩
   ·rw [hold b (dM n p.size) (fun L => by subst L; rcases Q.2.2 with h | h; omega; exact hF h)]
    exact p.kO b n hF
   ·rw [hold b (p.AV n) (fun L => by subst L; rw [Q.2.1] at n; cases n)]
    exact p.mem b o n
   ·simp only [aO, cK] at n
    rcases n with n | n | n
    ·obtain ⟨r1, r2⟩ := p.box b o (by simp [n])
     exact ⟨by rw [hold b (mR r1) (I b o (by simp [n]))]; exact r1, r2⟩
    ·cases n
     refine ⟨ag, ?_, .inl (dr p.size Z)⟩
     cases hm : μ U with
     | none => rfl
     | some x => have := p.AV hm; omega
    ·obtain ⟨r1, r2⟩ := p.box b o (by simp [n])
     exact ⟨by rw [hold b (mR r1) (I b o (by simp [n]))]; exact r1, r2⟩
   ·have az : (X.map (·.1) ++ Y.map (·.1)).Nodup := (cT.1 ((fw eu).1 G)).2
    simp only [bV, bI, eW]
    refine (fw eu).2 (cT.2 ⟨fun hm => ?_, az⟩)
    rw [← bV] at hm
    obtain ⟨⟨b, o⟩, n, L⟩ := bG.1 hm
    have := p.BQ (b := b) (o := o) (by rcases aO.1 n with h | h <;> simp [h])
    simp at L
    omega
end
end Go.Proofs.YtjjjihkifgdhgaaGreatDoor
namespace Go.Proofs.YtjjjihkifgdhgaaGreatDoor
open Go.RowKit
variable [M : Md]
def zf (l : List Value) : Nat → Value := fun t => l.getD t undef
def uL (P : Program) (fn : Func) (R : Ending → World → Prop) : oP
 | .normal, E, W | .ret, E, W => ∃ v, (∀ tmps : Array Value, (∀ t, tmps.getD t undef = E t) → (results fn tmps).run P W = .ok v W) ∧ R (.returned v) W
 | _, _, _ => False
theorem uX {P : Program} {f : FuncId} {fn : Func} {c : Code} {args : List Value} {w : World} {R : Ending → World → Prop} {n : Nat} (p : P.funcs[f]? = some fn) (o : fn.body = some c) (q : fn.ntmps = n) (ha : args.length ≤ n) (h : @CW yy P n c (uL P fn R) (zf args) w) : Calls P f args.toArray w R := by
 refine calls_of_wp p o ?_
 have i : @Ag yy n { tmps := args.toArray ++ Array.replicate (fn.ntmps - args.toArray.size) undef, defers := [] } (zf args) := by
  refine ⟨by simp; omega, rfl, fun t => ?_⟩
  simp only [zf, eY, List.getD_eq_getElem?_getD, Array.getElem?_append, Array.getElem?_replicate, dn, gi]
  by_cases m : t < args.length
  ·rw [aW m]
  ·rw [aU m, eX (by omega)]
   split <;> simp
 refine wp_mono ((wpIn_wide (n := 0)).1 (h _ i)) (fun e a r d => ?_)
 cases e with
 | normal =>
  obtain ⟨E, b, v, j, g⟩ := d
  exact ⟨b.2.1, v, j _ b.2.2, g⟩
 | ret =>
  obtain ⟨E, b, v, j, g⟩ := d
  exact ⟨b.2.1, v, j _ b.2.2, g⟩
 | exit id => obtain ⟨E, b, h⟩ := d; exact h.elim
 | goto l => obtain ⟨E, b, h⟩ := d; exact h.elim
 | panic c => exact d.2.elim
 | outgrown => exact d.elim
section
variable {P : Program} {fn : Func} {R : Ending → World → Prop} {E : Nat → Value} {W : World}
theorem kv {r : Tmp} {v : Value} (b : fn.results = #[.tmp r]) (d : E r = v) (h : R (.returned v) W) : uL P fn R .ret E W :=
 ⟨v, fun tmps c => by rw [results_tmp b, c, d], h⟩
theorem B9 {r s : Tmp} {v u : Value} (c : fn.results = #[.tmp r, .tmp s]) (d : E r = v) (hu : E s = u) (h : R (.returned (.tuple #[v, u])) W) : uL P fn R .ret E W :=
 ⟨.tuple #[v, u], fun tmps b => by rw [results_tmp2 c, b, b, d, hu], h⟩
theorem nh (b : fn.results = #[]) (h : R (.returned (.tuple #[])) W) : uL P fn R .ret E W :=
 ⟨.tuple #[], fun tmps _ => by rw [results_none b], h⟩
theorem oU {r : Tmp} {t : TypeId} {a : Addr} {v : Value} (b : fn.results = #[.cell r t]) (g : E r = .pointer (some a)) (d : (Instr.loadAt t (.pointer (some a))).run P W = .ok v W) (h : R (.returned v) W) : uL P fn R .ret E W :=
 ⟨v, fun tmps c => by
  have h1 : (loadVar t a).run P W = .ok v W := by simpa [Instr.loadAt, Instr.sureAddr] using d
  simp [results, b, c, g, asAddr, h1], h⟩
theorem nY (h : uL P fn R .ret E W) : uL P fn R .normal E W := h
end
section
variable {Q : oP} {E : Nat → Value} {W : World} {K : (Nat → Value) → World → Prop} {id j : Nat}
theorem jQ (h : Q .normal E W) : ua id Q .normal E W := h
theorem og (h : Q .ret E W) : ua id Q .ret E W := h
theorem qX (h : Q .normal E W) : ua id Q (.exit id) E W := by simp [ua]; exact h
theorem Ot (b : (j = id) = False) (h : Q (.exit j) E W) : ua id Q (.exit j) E W := by simp only [ua, b, aF]; exact h
theorem jo (h : K E W) : oZ K Q .normal E W := h
theorem lc (h : Q .ret E W) : oZ K Q .ret E W := h
theorem mA (h : Q (.exit j) E W) : oZ K Q (.exit j) E W := h
end
theorem JL {i N : Nat} (c : i < N) (b : N ≤ 9223372036854775807) : IntKind.i64.wrap ((i : Int) + 1) = ((i + 1 : Nat) : Int) := by
 rw [IntWalk.i64_in _ (by omega)]
 omega
theorem lu {P : Program} {n : Nat} {Q : oP} {E : Nat → Value} {W : World} {g r Y Z o p z t : Nat} {t1 t2 t3 t4 t5 t6 t7 : TypeId} {R T U : String} {f1 f2 f3 : Array Edge} {body : Code} (I : Nat → (Nat → Value) → World → Prop) (N : Nat) (L : N ≤ 9223372036854775807) (A : I 0 E W) (M : o < n) (O : t < n) (y : p < n) (J : ∀ i E W, I i E W → E p = .int .i64 (i : Nat) ∧ E z = .int .i64 (N : Nat)) (round : ∀ i E W, i < N → I i E W → CW P n (.block r body) (oZ (fun E' W' => E' p = .int .i64 (i : Nat) ∧ I (i + 1) (nC (nC E' t (.int .i64 ((i + 1 : Nat) : Int))) p (.int .i64 ((i + 1 : Nat) : Int))) W') (ua g Q)) (nC E o (.bool true)) W) (done : ∀ E W, I N E W → Q .normal (nC E o (.bool false)) W) :
  CW P n (.block g (.loop (.seq (.region Y #[⟨some o, .binOp .lss t1 (.tmp p) (.tmp z) t2, t3, R, f1, none⟩] false)
   (.seq (.cond (.tmp o) .skip (.exit g)) (.seq (.block r body)
    (.region Z #[⟨some t, .binOp .add t4 (.tmp p) (.const (.int .i64 1)) t5, t6, T, f2, none⟩, ⟨some p, .move (.tmp t), t7, U, f3, none⟩] false)))))) Q E W := by
 refine kW (nm (fun m E W => ∃ i, i ≤ N ∧ m = N - i ∧ I i E W) N ⟨0, fM _, by omega, A⟩ ?_)
 rintro m E W ⟨i, hi, rfl, d⟩
 obtain ⟨u, w⟩ := J i E W d
 refine jt (jq (Fv (.inl rfl) rfl M (lA u w rfl) (jH ?_)))
 refine jo (jt ?_)
 have s : nC E o (.bool (decide ((i : Int) < (N : Int)))) o = .bool (decide ((i : Int) < (N : Int))) := by simp [nC]
 by_cases q : i < N
 ·have x : decide ((i : Int) < (N : Int)) = true := by simp; omega
  rw [x] at s ⊢
  refine uk s (kX (jo (jt ?_)))
  refine E9 (round i E W q d) (fun e E' W' h => ?_)
  cases e with
  | normal =>
   obtain ⟨h1, G⟩ := h
   refine jo ?_
   have hw : IntKind.i64.wrap ((i : Int) + 1) = ((i + 1 : Nat) : Int) := JL q L
   refine jq (Fv (v := .int .i64 ((i + 1 : Nat) : Int)) (.inl rfl) rfl O (lA (k := .i64) (a := (i : Int)) (b := 1) h1 rfl (by simp only [Gf, hw])) ?_)
   refine Fv (v := .int .i64 ((i + 1 : Nat) : Int)) (.inl rfl) rfl y (jh (by simp [je, nC])) (jH ?_)
   exact jo ⟨N - (i + 1), by omega, i + 1, by omega, rfl, G⟩
  | exit j => exact h
  | goto l => exact h
  | ret => exact h
  | panic c => exact h
  | outgrown => exact h
 ·have x : decide ((i : Int) < (N : Int)) = false := by simp; omega
  rw [x] at s ⊢
  obtain rfl : i = N := by omega
  refine pb s (mU (mA (mA (qX ?_))))
  exact done E W d
theorem J3 {P : Program} {n : Nat} {x : Code} {Q : oP} {K : (Nat → Value) → World → Prop} {E : Nat → Value} {W : World} (J : (Nat → Value) → World → Prop) (h : CW P n x (oZ J Q) E W) (k : ∀ E W, J E W → K E W) : CW P n x (oZ K Q) E W :=
 E9 h (fun e E W h => by cases e <;> first | exact k E W h | exact h)
theorem Nu {α : Type} {c : Bool} {x y r : α} (b : c = true) (h : (if c = true then x else y) = r) : x = r := by rw [aW b] at h; exact h
theorem Ny {α : Type} {c : Bool} {x y r : α} (b : c = false) (h : (if c = true then x else y) = r) : y = r := by rw [aU (by rw [b]; decide)] at h; exact h
theorem bind_some {α β : Type} {o : Option α} {f : α → Option β} {r : β} (h : o.bind f = some r) : ∃ y, o = some y ∧ f y = some r := by
 cases o with
 | none => cases h
 | some y => exact ⟨y, rfl, h⟩
theorem Jr (b : Bool) : b = true ∨ b = false := by cases b <;> simp
theorem kL {α : Type} {l : List α} {i : Nat} (h : i < l.length) : ∃ x xs, l.drop i = x :: xs ∧ l[i]? = some x ∧ l.drop (i + 1) = xs := by
 cases b : l.drop i with
 | nil => have := bA List.length b; simp at this; omega
 | cons x xs => exact ⟨x, xs, rfl, by rw [← List.head?_drop, b]; rfl, by rw [← List.drop_drop, b]; rfl⟩
theorem Cg {P : Program} {W : World} (d : Nat) (xs ys : Array Value) : (Op.eqFields d xs ys []).run P W = .ok true W := by simp [Op.eqFields]
theorem pz {P : Program} {W : World} {d : Nat} {xs ys : Array Value} {f : Field} {c : List Field} {a b : Value} {r s : Bool} (i : f.name ≠ "_") (ha : (part f.type xs f.offset).run P W = .ok a W) (g : (part f.type ys f.offset).run P W = .ok b W) (he : (Op.equalIn d f.type a b).run P W = .ok r W) (h : (Op.eqFields d xs ys c).run P W = .ok s W) : (Op.eqFields d xs ys (f :: c)).run P W = .ok (r && s) W := by
 simp only [Op.eqFields, ne_eq, i, not_false_eq_true, aJ, bY, ha, g, he, bK]
 cases r <;> simp [h]
theorem xb {P : Program} {W : World} {t : TypeId} {k : Nat} {cs : Array Value} {off : Nat} {v : Array Value} (b : ∀ w, (isAgg t).run P w = .ok true w) (c : ∀ w, (sizeOf t).run P w = .ok k w) (d : cs.extract off (off + k) = v) : (part t cs off).run P W = .ok (.agg v) W := by
 simp [part, b W, c W, d]
theorem qt {P : Program} {W : World} {t : TypeId} {cs : Array Value} {off : Nat} {v : Value} (b : ∀ w, (isAgg t).run P w = .ok false w) (c : cs[off]? = some v) : (part t cs off).run P W = .ok v W := by
 simp [part, b W, c]
def jP (a b : ByteArray) : Bool := a.toList == b.toList
theorem Mv {P : Program} {t : TypeId} (c : P.underlying t = some .string) (d : Nat) (a b : ByteArray) (W : World) : (Op.equalIn (d + 1) t (.string a) (.string b)).run P W = .ok (jP a b) W := run_equalIn_string W d t a b c
theorem P4 {P : Program} {t : TypeId} {k : IntKind} (c : P.underlying t = some (.int k)) (d : Nat) (a b : Int) (W : World) : (Op.equalIn (d + 1) t (.int k a) (.int k b)).run P W = .ok (a == b) W := run_equalIn_int W d t k k a b c
theorem sM {P : Program} {op : BinOp} {t : TypeId} {x y : Operand} {a b : Array Value} (c : P.eqGuardType P.depth t = false) (W : World) : (eqGuard op t x y (.agg a) (.agg b)).run P W = .ok () W := by
 cases op <;> simp [eqGuard] <;> (intro h; rw [c] at h; cases h)
theorem wT {P : Program} {t : TypeId} {a b : Array Value} {r : Bool} (h : ∀ W, (Op.equalIn Op.maxDepth t (.agg a) (.agg b)).run P W = .ok r W) (W : World) : (binOp .eql t (.agg a) (.agg b)).run P W = .ok (.bool r) W := by
 simp [binOp, Op.equal, h W]
theorem MR {P : Program} {t : TypeId} {a b : Array Value} {r : Bool} (h : ∀ W, (Op.equalIn Op.maxDepth t (.agg a) (.agg b)).run P W = .ok r W) (W : World) : (binOp .neq t (.agg a) (.agg b)).run P W = .ok (.bool !r) W := by
 simp [binOp, Op.equal, h W]
end Go.Proofs.YtjjjihkifgdhgaaGreatDoor
namespace Go.Proofs.YtjjjihkifgdhgaaGreatDoor
open Go.RowKit
variable [M : Md]
variable {dd : Bool}
def jN (k : IntKind) (x : Int) : List Value := [.int k x]
def Bb (x : ByteArray) : List Value := [.string x]
theorem Cw (k : IntKind) (x : Int) : ∀ u ∈ jN k x, u.oneCell' = true := by intro u hu; simp [jN] at hu; subst hu; rfl
theorem NK (x : ByteArray) : ∀ u ∈ Bb x, u.oneCell' = true := by intro u hu; simp [Bb] at hu; subst hu; rfl
def zS : ByteArray := ⟨#[]⟩
def oJ (a b : ByteArray) : Bool := Op.bytesLess a.toList b.toList
@[irreducible] def jB : Nat := 18446744073709551616
theorem uz : jB = 18446744073709551616 := by unfold jB; rfl
def kp {α : Type} (l : List α) (i : Int) : Option α := if 0 ≤ i then l[i.toNat]? else none
theorem jG {α : Type} {l : List α} {i : Int} {x : α} (h : kp l i = some x) : 0 ≤ i := by
 unfold kp at h; split at h
 ·assumption
 ·cases h
theorem jD {α : Type} {l : List α} {i : Int} {x : α} (h : kp l i = some x) : l[i.toNat]? = some x := by
 unfold kp at h; split at h
 ·exact h
 ·cases h
theorem CD {α : Type} (l : List α) (i : Nat) : kp l (i : Int) = l[i]? := by simp [kp]
def xT (s : ByteArray) (i : Int) : Option UInt8 := if 0 ≤ i then s[i.toNat]? else none
theorem HZ {s : ByteArray} {i : Int} {x : UInt8} (h : xT s i = some x) : 0 ≤ i := by
 unfold xT at h; split at h
 ·assumption
 ·cases h
theorem KS {s : ByteArray} {i : Int} {x : UInt8} (h : xT s i = some x) : s[i.toNat]? = some x := by
 unfold xT at h; split at h
 ·exact h
 ·cases h
section
variable {F : Nat → Prop} {w W : World} {μ : jx} {L L' : List (Nat × Obj)} {α : Type} {e : TypeId} {enc : α → List Value} {k : Nat} {v : Value} {l : List α} {R : List (Nat × Obj)}
theorem ST.at_ (h : ST dd F w W μ L) {b : Nat} {o : Obj} (c : (b, o) ∈ L) : hp W b = some o := (h.box b o c).1
theorem jw.Pp (h : jw e enc k v l R) (hk : ∀ x, (enc x).length = k) (b : ST dd F w W μ L) (c : ∀ p, p ∈ R → p ∈ L) : Sl (Pl enc) k (hp W) v l :=
 h.sl hk (fun _ _ d => b.at_ (c _ d))
theorem jw.form (h : jw e enc k v l R) : ∃ A c, v = .slice A l.length c := by
 rcases h with ⟨rfl, rfl, rfl⟩ | ⟨g, cap, b, rfl, rfl, h1, d, i, j⟩
 ·exact ⟨_, _, rfl⟩
 ·exact ⟨_, _, rfl⟩
theorem Sl.form {R : oF α} (h : Sl R k μ v l) : ∃ A c, v = .slice A l.length c := let ⟨A, c, h, _⟩ := h; ⟨A, c, h⟩
theorem Sl.lit {b m : Nat} {cs : Array Value} (hk : ∀ x, (enc x).length = k) (hm : l.length = m) (d : m ≤ maxLen) (c : cs.toList = (l.map enc).flatten) (g : μ b = some (.cells cs e (0, 0))) : Sl (Pl enc) k μ (.slice (some ⟨b, 0, none⟩) m m) l :=
 (jw.lit (e := e) (b := b) hm d c (by have := bA List.length c; rw [oy hk, dz, hm] at this; exact this)).sl hk (fun i o h => by simp at h; obtain ⟨rfl, rfl⟩ := h; exact g)
theorem Fr.box (h : ST dd lG w W μ L) {b m c : Nat} {o : Obj} (g : (b, o) ∈ L) : Fr w.heap.size (.slice (some ⟨b, 0, none⟩) m c) := by
 intro i d
 simp [Value.ownBlock] at d
 subst d
 rcases (h.box b o g).2.2 with h | h
 ·exact h
 ·exact h.elim
theorem ST.perm (h : ST dd F w W μ L) (hp : L.Perm L') : ST dd F w W μ L' :=
 ⟨h.os, h.tape, h.output, h.drawn, h.size, h.kO, h.mem, fun b o c => h.box b o (hp.mem_iff.2 c), (hp.map _).nodup_iff.1 h.nd⟩
theorem ST.sublist (h : ST dd F w W μ L) (c : L'.Sublist L) : ST dd F w W μ L' :=
 ⟨h.os, h.tape, h.output, h.drawn, h.size, h.kO, h.mem, fun b o d => h.box b o (c.subset d), h.nd.sublist (c.map _)⟩
end
section
variable {E : Nat → Value} {x1 x2 x3 x4 x5 x6 : Operand} {v1 v2 v3 v4 v5 v6 : Value}
theorem uw (h1 : je E x1 = v1) : #[x1].map (je E) ++ (#[] : Array Value) = [v1].toArray := by simp [h1]
theorem vk (h1 : je E x1 = v1) (b : je E x2 = v2) : #[x1, x2].map (je E) ++ (#[] : Array Value) = [v1, v2].toArray := by simp [h1, b]
end
theorem FM : ∀ (v : List Value) (i off : Nat) (cells : Array Value), off + i + v.length ≤ cells.size →
  (v.zipIdx i).foldl (fun cs (c, j) => cs.setIfInBounds (off + j) c) cells = (cells.toList.take (off + i) ++ v ++ cells.toList.drop (off + i + v.length)).toArray
 | [], i, off, cells, h => by simp
 | c :: v, i, off, cells, h => by
  simp only [iA, fE]
  simp only [aH] at h
  rw [FM v (i + 1) off _ (by simp; omega)]
  have g : off + i < cells.toList.length := by simp; omega
  congr 1
  rw [Array.toList_setIfInBounds]
  apply ei
  intro j
  have l : (cells.toList.take (off + i)).length = off + i := by simp; omega
  by_cases h1 : j < off + i
  ·simp only [fi, aC, cP, gy, dz, aH, eK, eA, dE]
   rw [show min (off + (i + 1)) cells.size = off + (i + 1) by omega, show min (off + i) cells.size = off + i by omega]
   rw [aW (by omega), aW (by omega), aW (by omega), aU (by omega), aW (by omega), aW (by omega), aW (by omega)]
  ·by_cases d : j = off + i
   ·subst d
    simp [fi, eK, eA, show off + i < off + (i + 1) by omega]
    rw [aW (by omega), aW (by omega), aU (by omega), show off + i - min (off + i) cells.size = 0 by omega]
    rfl
   ·simp only [fi, aC, cP, gy, dz, aH, eK, eA, dE]
    rw [show min (off + (i + 1)) cells.size = off + (i + 1) by omega, show min (off + i) cells.size = off + i by omega]
    by_cases b : j < off + (i + 1) + v.length
    ·rw [aW b, aU (by omega), aW (by omega), aU (by omega)]
     rw [show j - (off + i) = (j - (off + (i + 1))) + 1 by omega]
     simp
    ·rw [aU b, aU (by omega), aU (by omega)]
     congr 1
     omega
theorem G0 {k : Nat} : ∀ (vs : List Value) (i : Nat) (pre rest : List Value), (∀ v ∈ vs, v.cells.size = k) → pre.length = i * k → rest.length = vs.length * k →
  Instr.fill (fun i => some (i * k, k)) (pre ++ rest).toArray ((vs.zipIdx i).map (fun p => (p.2, p.1))) = some (pre ++ vs.flatMap (fun v => v.cells.toList)).toArray
 | [], i, pre, rest, g, hp, d => by
  have : rest = [] := by cases rest <;> simp at d ⊢
  simp [Instr.fill, this]
 | v :: vs, i, pre, rest, g, hp, d => by
  have b := g v (by simp)
  have h : v.cells.zipIdx.foldl (fun cs (c, j) => cs.setIfInBounds (i * k + j) c) (pre ++ rest).toArray = (pre ++ v.cells.toList ++ rest.drop k).toArray := by
   have := FM v.cells.toList 0 (i * k) (pre ++ rest).toArray (by simp [hp, d, b, cH])
   rw [← Array.toList_zipIdx, Array.foldl_toList] at this
   rw [this]
   congr 1
   simp [← hp, b]
  simp only [iA, bI, Instr.fill]
  rw [aU (by simp [b, hp, d, cH]), h]
  have := G0 vs (i + 1) (pre ++ v.cells.toList) (rest.drop k) (fun u hu => g u (by simp [hu])) (by simp [hp, b, cH]) (by simp [d, cH])
  rw [this]
  simp
theorem Ld {k m : Nat} {b cs : Array Value} {c : Array (Nat × Value)} (vs : List Value) (g : c.toList = vs.zipIdx.map (fun p => (p.2, p.1))) (j : ∀ v ∈ vs, v.cells.size = k) (hm : vs.length = m) (h : b.size = m * k) (d : (vs.flatMap (fun v => v.cells.toList)).toArray = cs) : Instr.fill (fun i => some (i * k, k)) b c.toList = some cs := by
 subst hm d
 rw [g]
 have := G0 vs 0 [] b.toList j (by simp) (by simpa using h)
 simpa using this
theorem AK {P : Program} {t e : TypeId} {m k : Nat} {z : Value} {b : Array (Nat × Value)} {cs : Array Value} (vs : List Value) (i : P.underlying t = some (.slice e)) (h : ∀ w, (sizeOf e).run P w = .ok k w) (l : ∀ w, (zeroValue e).run P w = .ok z w) (hm : m * k ≤ 16777216) (g : b.toList = vs.zipIdx.map (fun p => (p.2, p.1))) (j : ∀ v ∈ vs, v.cells.size = k) (d : vs.length = m) (c : (vs.flatMap (fun v => v.cells.toList)).toArray = cs) (W : World) :
  (Instr.buildSlice t m b).run P W = .ok (.slice (some ⟨W.heap.size, 0, none⟩) m m) (W.alloc (.cells cs e (0, 0))) :=
 EW i h l hm (Ld vs g j d (by simp) c) W
theorem sF {E : Nat → Value}  : (#[] : Array (Nat × Operand)).map (fun (i, x) => (i, je E x)) = #[] := by simp
theorem mH {E : Nat → Value} {x0 : Operand} {v0 : Value} {i0 : Nat} (b : je E x0 = v0) : (#[(i0, x0)] : Array (Nat × Operand)).map (fun (i, x) => (i, je E x)) = #[(i0, v0)] := by simp [b]
theorem xC {E : Nat → Value} {x0 x1 : Operand} {v0 v1 : Value} {i0 i1 : Nat} (b : je E x0 = v0) (h1 : je E x1 = v1) : (#[(i0, x0), (i1, x1)] : Array (Nat × Operand)).map (fun (i, x) => (i, je E x)) = #[(i0, v0), (i1, v1)] := by simp [b, h1]
theorem AL {E : Nat → Value} {x0 x1 x2 : Operand} {v0 v1 v2 : Value} {i0 i1 i2 : Nat} (b : je E x0 = v0) (h1 : je E x1 = v1) (c : je E x2 = v2) : (#[(i0, x0), (i1, x1), (i2, x2)] : Array (Nat × Operand)).map (fun (i, x) => (i, je E x)) = #[(i0, v0), (i1, v1), (i2, v2)] := by simp [b, h1, c]
theorem NV {E : Nat → Value} {x0 x1 x2 x3 x4 : Operand} {v0 v1 v2 v3 v4 : Value} {i0 i1 i2 i3 i4 : Nat} (b : je E x0 = v0) (h1 : je E x1 = v1) (c : je E x2 = v2) (d : je E x3 = v3) (g : je E x4 = v4) : (#[(i0, x0), (i1, x1), (i2, x2), (i3, x3), (i4, x4)] : Array (Nat × Operand)).map (fun (i, x) => (i, je E x)) = #[(i0, v0), (i1, v1), (i2, v2), (i3, v3), (i4, v4)] := by simp [b, h1, c, d, g]
theorem jT {P : Program} {t : TypeId} {f off : Nat} {c : Array Field} {fd : Field} (i : P.underlying t = some (.struct c)) (d : c[f]? = some fd) {k : Nat} (h : ∀ w, (sizeOf fd.type).run P w = .ok k w) (hk : k ≠ 0) (g : fd.offset = off) : kI P t f off := by
 intro b o w
 subst g
 simp [Instr.fieldAt, aR i, d, Instr.sureAddr, fieldPlace, dt, h w, hk]
theorem OL {P : Program} {n : Nat} {Q : oP} {E : Nat → Value} {W : World} {ops : Array Oper} {rest : List Oper} {A : Value → Prop} {o : Oper} {dd : Nat} (hw : sh n ops E o) (c : o.dst = some dd) (d : dd < n) (g : ∃ p, A p ∧ ∀ W, kH P E o W p W) (h : ∀ p, A p → LW P n ops Q rest (nC E dd p) W) : LW P n ops Q (o :: rest) E W := by
 obtain ⟨p, h1, b⟩ := g
 exact Fv hw c d (b W) (h p h1)
end Go.Proofs.YtjjjihkifgdhgaaGreatDoor
namespace Go.Proofs.YtjjjihkifgdhgaaGreatDoor
open Go.RowKit
variable [M : Md]
variable {dd : Bool}
theorem tu {P : Program} {n : Nat} {x : Code} {Q : oP} {E : Nat → Value} {W : World} (h : CW P n x (oZ (fun E W => Q .normal E W) Q) E W) : CW P n x Q E W :=
 E9 h (fun e E W h => by cases e <;> exact h)
section
variable {P : Program} {n : Nat} {Q : oP} {E : Nat → Value} {W : World} {d : Option Nat} {ty : TypeId} {pos : String} {af : Array Edge} {g : Option (Nat × Bool)}
 {F : Nat → Prop} {w : World} {μ : jx} {L : List (Nat × Obj)}
def Mm (k : IntKind) (op : BinOp) (a b : Int) : Option Value :=
 match op with
 | .quo => some (.int k (k.wrap (a.tdiv b)))
 | .rem => some (.int k (a.tmod b))
 | .and => some (.int k (k.wrap (BitVec.ofInt k.bits a &&& BitVec.ofInt k.bits b).toNat))
 | .or => some (.int k (k.wrap (BitVec.ofInt k.bits a ||| BitVec.ofInt k.bits b).toNat))
 | _ => none
theorem Pj {op : BinOp} {tx tv : TypeId} {x y : Operand} {k : IntKind} {a b : Int} {v : Value} (i : je E x = .int k a) (j : je E y = .int k b) (h : b ≠ 0) (c : Mm k op a b = some v) :
  kH P E ⟨d, .binOp op tx x y tv, ty, pos, af, g⟩ W v W := by
 show (do let r ← (do eqGuard op tx x y (je E x) (je E y); binOp op tx (je E x) (je E y)); pure (.value r) : Sem Next).run P W = _
 rw [i, j]
 cases op <;> simp [Mm] at c <;> subst c <;> simp [eqGuard, binOp, Op.intDiv, Op.intBits, h]
theorem EB {tx tv : TypeId} {x y : Operand} {k k' : IntKind} {a b : Int} (c : je E x = .int k a) (h : je E y = .int k' b) (i : 0 ≤ b) :
  kH P E ⟨d, .binOp .shr tx x y tv, ty, pos, af, g⟩ W (.int k (a.fdiv (2 ^ min b.toNat k.bits))) W := by
 show (do let r ← (do eqGuard .shr tx x y (je E x) (je E y); binOp .shr tx (je E x) (je E y)); pure (.value r) : Sem Next).run P W = _
 rw [c, h]
 simp [eqGuard, binOp, Op.shift, show ¬ b < 0 by omega]
theorem qJ {s t : TypeId} {x : Operand} {k k' : IntKind} {a : Int} {u : TypeDesc} (b : P.underlying s = some u) (c : P.underlying t = some (.int k)) (h : je E x = .int k' a) :
  kH P E ⟨d, .convert s t x, ty, pos, af, g⟩ W (.int k (k.wrap a)) W := by
 show (do pure (.value (← convert s t (je E x))) : Sem Next).run P W = _
 rw [h]
 simp [convert, aR b, aR c, Conv.intToInt]
theorem Fc {t e : TypeId} (dd : Nat) (b : P.underlying t = some (.slice e)) (A : Option Addr) (l c : Nat) (W : World) : (Op.equalIn (dd + 1) t (.slice A l c) (.slice none 0 0)).run P W = .ok A.isNone W := by
 cases A <;> simp [Op.equalIn, aR b]
theorem zl {tx tv e : TypeId} {x y : Operand} {A : Option Addr} {l c : Nat} (h : P.underlying tx = some (.slice e)) (i : je E x = .slice A l c) (j : je E y = .slice none 0 0) :
  kH P E ⟨d, .binOp .eql tx x y tv, ty, pos, af, g⟩ W (.bool A.isNone) W := by
 show (do let r ← (do eqGuard .eql tx x y (je E x) (je E y); binOp .eql tx (je E x) (je E y)); pure (.value r) : Sem Next).run P W = _
 rw [i, j]
 have b := Fc 9999 h A l c W
 simp [eqGuard, binOp, Op.equal, show Op.maxDepth = 9999 + 1 from rfl, b]
def lB (s : ByteArray) : List Int := s.data.toList.map (fun b => (b.toNat : Int))
def AB (s : ByteArray) : Option (List Int) := if s.size ≤ maxLen then some (lB s) else none
theorem lX (s : ByteArray) : (lB s).length = s.size := by simp only [lB, cU, dz]; rfl
theorem I9 {s : ByteArray} {cap i : Nat} {x : Int} (h : (lB s)[i]? = some x) : (bytesRow s cap)[i]? = some (.int .u8 x) := by
 have g : i < s.size := by have := (aY.1 h).1; rwa [lX] at this
 have c : i < s.data.size := g
 simp [lB] at h
 obtain ⟨b, d, rfl⟩ := h
 rw [bytesRow, Array.getElem?_append_left (by simpa using c)]
 simp [d]
theorem FN {K : Value → World → Prop} {s t e : TypeId} {x : Operand} {str : ByteArray} {l : List Int} (m : ST dd F w W μ L) (r : P.underlying s = some .string) (q : P.underlying t = some (.slice e)) (he : P.underlying e = some (.int .u8)) (o : je E x = .string str) (c : AB str = some l) (h : ∀ W' v μ', ST dd F w W' μ' L → jC μ μ' → Lo F w μ μ' → Sl (Pl (jN .u8)) 1 μ' v l → Fr w.heap.size v → K v W') : ma P E ⟨d, .convert s t x, ty, pos, af, g⟩ W K := by
 unfold AB at c
 split at c
 case isFalse => cases c
 rename_i hm
 cases c
 have n := run_bytes_of_string (P := P) W s t e str r q he
 have h1 := m.drew.alloc (.cells (bytesRow str (grownCap W str.size 0 e)) e ((bytesRow str (grownCap W str.size 0 e)).size, (bytesRow str (grownCap W str.size 0 e)).size + 1))
 refine .inl ⟨.slice (some ⟨W.heap.size, 0, none⟩) str.size (grownCap W str.size 0 e), _, ?_, h _ _ _ (ST.E6 (A := []) h1) (ST.E4 (A := []) h1) (ST.Kd (A := []) h1) ?_ ?_⟩
 ·show (do pure (.value (← convert s t (je E x))) : Sem Next).run P W = _
  rw [o]
  simp only [bY, n, bK, cW]
 ·refine ⟨_, grownCap W str.size 0 e, by rw [lX], by rw [lX]; exact iL W str.size 0 e, fI W str.size 0 e hm, fun _ => ⟨W.heap.size, 0, bytesRow str (grownCap W str.size 0 e), e, _, rfl, aW rfl, fun i x o => ⟨_, rfl, rfl, fun j y p => ?_⟩⟩⟩
  cases j with
  | zero => simp [jN] at p; subst p; simpa using I9 o
  | succ j => simp [jN] at p
 ·intro b c
  simp [Value.ownBlock] at c
  subst c
  exact m.size
def IE (l : List Int) : ByteArray := l.foldl (fun r n => r.push (UInt8.ofNat n.toNat)) ByteArray.empty
end
end Go.Proofs.YtjjjihkifgdhgaaGreatDoor
namespace Go.Proofs.YtjjjihkifgdhgaaGreatDoor
open Go.RowKit
variable {dd : Bool}
def keys (L : List (Nat × Obj)) : Nat → Prop := fun b => ∃ o, (b, o) ∈ L
structure Qg (dd : Bool) (F : Nat → Prop) (w W : World) : Prop where
 os : W.os = w.os
 tape : W.tape = w.tape
 output : W.output = w.output
 drawn : qI dd w.drawn W.drawn
 size : w.heap.size ≤ W.heap.size
 kO : ∀ b, b < w.heap.size → ¬ F b → W.heap[b]? = w.heap[b]?
def BU (L : List (Nat × Obj)) (W : World) : Prop := ∀ b o, (b, o) ∈ L → W.heap[b]? = some o
structure rr (dd : Bool) (L0 L1 : List (Nat × Obj)) (w w' : World) : Prop where
 ex : Qg dd (keys L0) w w'
 held : ∀ b o, (b, o) ∈ L1 → w'.heap[b]? = some o ∧ (w.heap.size ≤ b ∨ keys L0 b)
 nd : (L1.map (·.1)).Nodup
open Classical in
noncomputable def rU (w : World) (L : List (Nat × Obj)) : jx := fun b => if keys L b then none else w.heap[b]?
open Classical in
noncomputable def ze (μ : jx) (W W' : World) (L1 : List (Nat × Obj)) : jx := fun b => if b < W.heap.size then μ b else if keys L1 b then none else W'.heap[b]?
section
variable {F : Nat → Prop} {w W W' : World} {μ μ' : jx} {L L0 L1 : List (Nat × Obj)}
theorem ST.NQ (c : BU L0 w) (d : (L0.map (·.1)).Nodup) : ST dd (keys L0) w w (rU w L0) L0 :=
 ⟨rfl, rfl, rfl, qI.of (aQ _), aQ _, fun _ _ _ => rfl, fun b o h => by
  unfold rU at h; split at h
  ·cases h
  ·exact h, fun b o h => ⟨c b o h, by unfold rU; rw [aW ⟨o, h⟩], .inr ⟨o, h⟩⟩, d⟩
theorem CH {A B : List (Nat × Obj)} (h : ((A ++ B).map (·.1)).Nodup) {b : Nat} {o : Obj} (c : (b, o) ∈ B) : ¬ keys A b := by
 rintro ⟨g, d⟩
 rw [bV] at h
 exact (bO.1 h).2.2 b (bG.2 ⟨_, d, rfl⟩) b (bG.2 ⟨_, c, rfl⟩) rfl
theorem ST.back (h : ST dd F w W μ (L0 ++ L)) (j : rr dd L0 L1 W W') : ST dd F w W' (ze μ W W' L1) (L1 ++ L) := by
 have hk : ∀ b, keys L0 b → b < W.heap.size ∧ μ b = none ∧ (w.heap.size ≤ b ∨ F b) := fun b ⟨o, d⟩ => by
  obtain ⟨h1, g, n⟩ := h.box b o (cA _ d)
  exact ⟨mR h1, g, n⟩
 refine ⟨j.ex.os.trans h.os, j.ex.tape.trans h.tape, j.ex.output.trans h.output, qI.trans h.drawn j.ex.drawn, dr h.size j.ex.size, fun b i p => ?_, fun b o d => ?_, fun b o d => ?_, ?_⟩
 ·rw [j.ex.kO b (dM i h.size) (fun l => by
   rcases (hk b l).2.2 with h | h
   ·omega
   ·exact p h)]
  exact h.kO b i p
 ·unfold ze at d
  split at d
  ·rename_i i
   rw [j.ex.kO b i (fun l => by rw [(hk b l).2.1] at d; cases d)]
   exact h.mem b o d
  ·split at d
   ·cases d
   ·exact d
 ·rcases aO.1 d with d | d
  ·obtain ⟨h1, g⟩ := j.held b o d
   refine ⟨h1, ?_, ?_⟩
   ·unfold ze
    split
    ·rename_i i
     rcases g with g | g
     ·omega
     ·exact (hk b g).2.1
    ·rw [aW ⟨o, d⟩]
   ·rcases g with g | g
    ·exact .inl (dr h.size g)
    ·exact (hk b g).2.2
  ·obtain ⟨h1, g, n⟩ := h.box b o (dI _ d)
   refine ⟨?_, ?_, n⟩
   ·rw [j.ex.kO b (mR h1) (CH h.nd d)]; exact h1
   ·unfold ze; rw [aW (mR h1)]; exact g
 ·rw [bV]
  have r : (L.map (·.1)).Nodup := by have := h.nd; rw [bV] at this; exact (bO.1 this).2.1
  refine bO.2 ⟨j.nd, r, fun a ha c s e => ?_⟩
  subst e
  obtain ⟨⟨b, o⟩, d, rfl⟩ := bG.1 ha
  obtain ⟨⟨q, t⟩, m, e⟩ := bG.1 s
  simp at e; subst e
  have i := h.BQ (dI _ m)
  rcases (j.held q o d).2 with g | g
  ·omega
  ·exact CH h.nd m g
theorem ST.Ha (h : ST dd F w W μ L) (W' : World) (L1 : List (Nat × Obj)) : Lo F w μ (ze μ W W' L1) := fun b c _ => aW (dM c h.size)
theorem ST.FH (h : ST dd F w W μ L) (W' : World) (L1 : List (Nat × Obj)) : jC μ (ze μ W W' L1) := fun b o c => by
 unfold ze; rw [aW (h.AV c)]; exact c
theorem ST.kz (h : ST dd F w W μ L) (d : ∀ p, p ∈ L0 → p ∈ L) : jC μ (rU W L0) := fun b o c => by
 unfold rU
 rw [aU]
 ·exact h.mem b o c
 ·rintro ⟨i, g⟩
  rw [(h.box b i (d _ g)).2.1] at c
  cases c
theorem rr.Gh (h : Ex dd w W) (d : ∀ b o, (b, o) ∈ L1 → W.heap[b]? = some o ∧ w.heap.size ≤ b) (g : (L1.map (·.1)).Nodup) : rr dd [] L1 w W :=
 ⟨⟨h.os, h.tape, h.output, h.drawn, h.size, fun b c _ => h.kO b c⟩, fun b o c => ⟨(d b o c).1, .inl (d b o c).2⟩, g⟩
end
def kw (dd : Bool) (P : Program) (f : FuncId) (args : List Value) (w : World) (L0 : List (Nat × Obj)) (K : Value → List (Nat × Obj) → World → Prop) : Prop :=
 Calls P f args.toArray w fun e b => ∃ v L1, e = .returned v ∧ rr dd L0 L1 w b ∧ K v L1 b
def lJ (dd : Bool) {α : Type} (P : Program) (f : FuncId) (args : List Value) (w : World) (e : TypeId) (enc : α → List Value) (k : Nat) (l : List α) : Prop :=
 kw dd P f args w [] fun v R _ => jw e enc k v l R
theorem rr.lI {L0 L1 : List (Nat × Obj)} {w b : World} (h : rr true L0 L1 w b) : rr dd L0 L1 w b := ⟨⟨h.ex.os, h.ex.tape, h.ex.output, qI.of (h.ex.drawn rfl), h.ex.size, h.ex.kO⟩, h.held, h.nd⟩
theorem jO.lI {P : Program} {f : FuncId} {args : List Value} {w : World} {v : Value} (h : jO true P f args w v) : jO dd P f args w v := cR h fun _ _ h => ⟨h.1, h.2.lI⟩
theorem kw.lI {P : Program} {f : FuncId} {args : List Value} {w : World} {L0 : List (Nat × Obj)} {K : Value → List (Nat × Obj) → World → Prop} (h : kw true P f args w L0 K) : kw dd P f args w L0 K := cR h fun _ _ ⟨v, L1, h1, b, c⟩ => ⟨v, L1, h1, b.lI, c⟩
theorem lJ.lI {α : Type} {P : Program} {f : FuncId} {args : List Value} {w : World} {e : TypeId} {enc : α → List Value} {k : Nat} {l : List α} (h : lJ true P f args w e enc k l) : lJ dd P f args w e enc k l := kw.lI h
section
variable {P : Program} {E : Nat → Value} {W : World} {d : Option Nat} {ty : TypeId} {pos : String} {af : Array Edge} {g : Option (Nat × Bool)}
 {F : Nat → Prop} {w : World} {μ : jx} {L : List (Nat × Obj)}
theorem KV {K : Value → World → Prop} {K' : Value → List (Nat × Obj) → World → Prop} {f : FuncId} {fv : Operand} {ax : Array Operand} {ats : Array TypeId} {b : Array Value} {args : List Value} (L0 L2 : List (Nat × Obj)) (c : ST dd F w W μ L) (i : L.Perm (L0 ++ L2)) (n : je E fv = .func (.func f) #[] b) (he : ∀ args w, (callFunc f args).run P w = .ok (.enter f args) w) (ha : ax.map (je E) ++ b = args.toArray) (m : kw dd P f args W L0 K') (h : ∀ W' v μ' L1, ST dd F w W' μ' (L1 ++ L2) → jC μ μ' → Lo F w μ μ' → K' v L1 W' → K v W') : ma P E ⟨d, .call ⟨.value fv, ax, ats⟩, ty, pos, af, g⟩ W K :=
 CG n he ha (cR m (fun _ W' ⟨v, L1, h1, j, l⟩ => ⟨v, h1, h W' v _ L1 ((c.perm i).back j) ((c.perm i).FH W' L1) ((c.perm i).Ha W' L1) l⟩))
theorem Ja {K : Value → World → Prop} {α : Type} {e : TypeId} {enc : α → List Value} {k : Nat} {l : List α} {f : FuncId} {fv : Operand} {ax : Array Operand} {ats : Array TypeId} {b : Array Value} {args : List Value} (X Y : List (Nat × Obj)) (c : ST dd F w W μ (X ++ Y)) (o : je E fv = .func (.func f) #[] b) (he : ∀ args w, (callFunc f args).run P w = .ok (.enter f args) w) (ha : ax.map (je E) ++ b = args.toArray) (n : lJ dd P f args W e enc k l) (h : ∀ W' v μ' R, ST dd F w W' μ' (X ++ (R ++ Y)) → jC μ μ' → Lo F w μ μ' → jw e enc k v l R → K v W') : ma P E ⟨d, .call ⟨.value fv, ax, ats⟩, ty, pos, af, g⟩ W K :=
 KV [] (X ++ Y) c (.refl _) o he ha n (fun W' v μ' L1 h1 i m j => h W' v μ' L1 (h1.perm (by rw [← aI, ← aI]; exact List.perm_append_comm.append_right Y)) i m j)
end
theorem ST.nj {w W : World} {μ : jx} {L R : List (Nat × Obj)} (h : ST dd lG w W μ L) (c : ∀ p, p ∈ R → p ∈ L) (g : (R.map (·.1)).Nodup) : rr dd [] R w W :=
 rr.Gh h.ex (fun b o d => ⟨(h.box b o (c _ d)).1, by
  rcases (h.box b o (c _ d)).2.2 with h | h
  ·exact h
  ·exact h.elim⟩) g
theorem ql {P : Program} {E : Nat → Value} {W : World} {d : Option Nat} {ty : TypeId} {pos : String} {af : Array Edge} {g : Option (Nat × Bool)} {α : Type} {e' : TypeId} {enc : α → List Value} {k : Nat} {v : Value} {l : List α} {R : List (Nat × Obj)} {x : Operand} {t e : TypeId} (b : P.underlying t = some (.slice e)) (i : je E x = v) (h : jw e' enc k v l R) : kH P E ⟨d, .call ⟨.builtin .len, #[x], #[t]⟩, ty, pos, af, g⟩ W (.int .i64 l.length) W := by
 obtain ⟨A, c, rfl⟩ := h.form
 exact xa b i
section
variable {α : Type} {e : TypeId} {enc : α → List Value} {k : Nat} {v : Value} {l : List α} {R : List (Nat × Obj)}
theorem jw.nd (h : jw e enc k v l R) : (R.map (·.1)).Nodup := by
 rcases h with ⟨rfl, rfl, rfl⟩ | ⟨g, cap, b, rfl, rfl, _⟩ <;> simp
end
end Go.Proofs.YtjjjihkifgdhgaaGreatDoor
namespace Go.Proofs.YtjjjihkifgdhgaaGreatDoor
open Go.RowKit
variable {dd : Bool}
def xv (R : List (Nat × Obj)) (k : Nat) (p : Value) (i : Nat) : Prop := ∃ g o, R = [(g, o)] ∧ p = .pointer (some ⟨g, i * k, none⟩)
section
variable {P : Program} {E : Nat → Value} {W : World} {d : Option Nat} {ty : TypeId} {pos : String} {af : Array Edge} {g : Option (Nat × Bool)}
 {F : Nat → Prop} {w : World} {μ : jx} {L : List (Nat × Obj)} {α : Type} {e' : TypeId} {enc : α → List Value} {k : Nat} {v : Value} {l : List α} {R : List (Nat × Obj)}
theorem pX {t e : TypeId} {x c : Operand} {y : IntKind} {i : Int} {x0 : α} (s : P.underlying t = some (.slice e)) (he : ∀ w, (sizeOf e).run P w = .ok k w) (u : je E x = v) (q : je E c = .int y i) (h : jw e' enc k v l R) (n : 0 ≤ i) (r : l[i.toNat]? = some x0) :
  ∃ p, xv R k p i.toNat ∧ ∀ W, kH P E ⟨d, .indexAddr t x c, ty, pos, af, g⟩ W p W := by
 have b : i.toNat < l.length := (aY.1 r).1
 rcases h with ⟨rfl, rfl, rfl⟩ | ⟨m, cap, j, rfl, rfl, h1, z, A, G⟩
 ·simp at b
 refine ⟨.pointer (some ⟨m, i.toNat * k, none⟩), ⟨_, _, rfl, rfl⟩, fun W => ?_⟩
 show (do pure (.value (← Instr.indexAt t (je E x) (je E c))) : Sem Next).run P W = _
 rw [u, q]
 have o : 0 ≤ i ∧ i < (l.length : Int) := ⟨n, by omega⟩
 simp [Instr.indexAt, asIntOf, aR s, he W, o, dt]
theorem yx (h : jw e' enc k v l R) (hk : ∀ x, (enc x).length = k) {p : Value} {i : Nat} (hp : xv R k p i) {x0 : α} (n : l[i]? = some x0) :
  ∃ g b cap, R = [(g, .cells b e' (0, 0))] ∧ v = .slice (some ⟨g, 0, none⟩) l.length cap ∧ l.length ≤ cap ∧ cap ≤ maxLen ∧ b.size = cap * k ∧ b.toList.take (l.length * k) = (l.map enc).flatten ∧ p = .pointer (some ⟨g, i * k, none⟩) ∧ ∀ j y, (enc x0)[j]? = some y → b[i * k + j]? = some y := by
 have d : i < l.length := (aY.1 n).1
 rcases h with ⟨rfl, rfl, rfl⟩ | ⟨r, cap, b, rfl, rfl, h1, s, t, m⟩
 ·simp at d
 obtain ⟨g2, o, q, rfl⟩ := hp
 cases q
 refine ⟨r, b, cap, rfl, rfl, h1, s, t, m, rfl, fun j y u => ?_⟩
 have := vu hk l i x0 n j y u
 rw [← m] at this
 have c : i * k + j < l.length * k := by
  have := (aY.1 this).1
  simp at this; omega
 rw [cZ c] at this
 simpa using this
theorem wQ {A : List (Nat × Obj)} (hH : mI μ A W) (d : ∀ q, q ∈ R → q ∈ A) (h : jw e' enc k v l R) (hk : ∀ x, (enc x).length = k) {p : Value} {i : Nat} (hp : xv R k p i) {x0 : α} (m : l[i]? = some x0) {t : TypeId} (g : ∀ w, (isAgg t).run P w = .ok true w) (j : ∀ w, (sizeOf t).run P w = .ok k w) : (Instr.loadAt t p).run P W = .ok (.agg (enc x0).toArray) W := by
 obtain ⟨n, b, cap, rfl, rfl, _, _, _, _, rfl, c⟩ := yx h hk hp m
 exact Ab g (enc x0) (by rw [hk]; exact j) (hH.2 _ _ (d _ (cK.2 rfl))) c
theorem Gy {A : List (Nat × Obj)} (hH : mI μ A W) (d : ∀ q, q ∈ R → q ∈ A) (h : jw e' enc k v l R) (hk : ∀ x, (enc x).length = k) {p : Value} {i : Nat} (hp : xv R k p i) {x0 : α} (j : l[i]? = some x0) {t : TypeId} {y : Value} (m : enc x0 = [y]) (g : ∀ w, (isAgg t).run P w = .ok false w) : (Instr.loadAt t p).run P W = .ok y W := by
 obtain ⟨n, b, cap, rfl, rfl, _, _, _, _, rfl, c⟩ := yx h hk hp j
 exact Ad g (hH.2 _ _ (d _ (cK.2 rfl))) (c 0 y (by rw [m]; rfl))
theorem Dp (hk : ∀ x, (enc x).length = k) : ∀ (l : List α) (i : Nat) (y : α), i < l.length → ((l.set i y).map enc).flatten = (l.map enc).flatten.take (i * k) ++ enc y ++ (l.map enc).flatten.drop (i * k + k)
 | [], i, y, h => by simp at h
 | z :: l, 0, y, h => by
  simp [hk]
 | z :: l, i + 1, y, h => by
  have := Dp hk l i y (by simpa using h)
  simp only [List.set_cons_succ, bI, bH, this]
  have h1 : (i + 1) * k = (enc z).length + i * k := by rw [hk, cH]; omega
  rw [h1, gE, dT, List.drop_length_add_append]
  simp
theorem Jo {K : Value → World → Prop} (X : List (Nat × Obj)) {Y : List (Nat × Obj)} {t : TypeId} {x y : Operand} {p u : Value} {i : Nat} {x0 x1 : α} (j : ST dd F w W μ (X ++ (R ++ Y))) (h : jw e' enc k v l R) (hk : ∀ x, (enc x).length = k) (h1 : ∀ x, ∀ u ∈ enc x, u.oneCell' = true) (T : je E x = p) (U : je E y = u) (hu : u.cells = (enc x1).toArray) (hp : xv R k p i) (A : l[i]? = some x0) (O : ∀ w, (sizeOf t).run P w = .ok k w) (M : ∀ W' R', ST dd F w W' μ (X ++ (R' ++ Y)) → jw e' enc k v (l.set i x1) R' → K undef W') : ma P E ⟨d, .store t x y, ty, pos, af, g⟩ W K := by
 have r : i < l.length := (aY.1 A).1
 obtain ⟨n, b, cap, rfl, rfl, z, J, q, L, rfl, Z⟩ := yx h hk hp A
 have hle : i * k + k ≤ cap * k := by
  have : (i + 1) * k ≤ cap * k := cI _ (by omega)
  rwa [cH, iM] at this
 have m : i * k + k ≤ l.length * k := by
  have : (i + 1) * k ≤ l.length * k := cI _ (by omega)
  rwa [cH, iM] at this
 have c : u.cells.size = k := by rw [hu]; simp [hk]
 have Q := (j.box n (.cells b e' (0, 0)) (by simp)).1
 have hlen : l.length * k ≤ cap * k := cI _ z
 refine .inr (.inl ⟨W.setRow n (b.toList.take (i * k) ++ (enc x1) ++ b.toList.drop (i * k + k)).toArray, ?_, M _ [(n, .cells (b.toList.take (i * k) ++ (enc x1) ++ b.toList.drop (i * k + k)).toArray e' (0, 0))] (j.store _) (.inr ⟨n, cap, _, by simp, rfl, by simpa using z, J, ?_, ?_⟩)⟩)
 ·show (do Instr.storeAt t (je E x) (je E y); pure .skip : Sem Next).run P W = _
  rw [T, U]
  have := Ai P (off := i * k) u (by rw [c]; exact O) (by rw [hu]; simpa using h1 x1) Q (by rw [c, q]; exact hle)
  simp only [bY, this, bK, cW, c]
  rw [hu]
 ·show ((b.toList.take (i * k) ++ (enc x1) ++ b.toList.drop (i * k + k)).toArray).size = _
  have o : b.toList.length = cap * k := by simpa using q
  rw [dn, aC, aC, cP, fl, hk, o, dw (by omega)]; omega
 ·rw [gy, Dp hk l i x1 r, ← L]
  have G : (b.toList.take (l.length * k)).take (i * k) = b.toList.take (i * k) := by rw [fR]; congr 1; omega
  have I : (b.toList.take (l.length * k)).drop (i * k + k) = (b.toList.drop (i * k + k)).take (l.length * k - (i * k + k)) := by rw [gK]
  rw [G, I]
  show List.take (l.length * k) (b.toList.take (i * k) ++ enc x1 ++ b.toList.drop (i * k + k)) = _
  have o : b.toList.length = cap * k := by simpa using q
  have s : (b.toList.take (i * k) ++ enc x1).length = i * k + k := by rw [aC, cP, hk, o, dw (by omega)]
  rw [eG, du (by rw [s]; exact m), s]
theorem Co (hk : ∀ x, (enc x).length = k) : ∀ (l : List α) (i : Nat), i ≤ l.length → ((l.take i).map enc).flatten = (l.map enc).flatten.take (i * k)
 | [], i, h => by simp
 | z :: l, 0, h => by simp
 | z :: l, i + 1, h => by
  have := Co hk l i (by simpa using h)
  simp only [List.take_succ_cons, bI, bH, this]
  rw [show (i + 1) * k = (enc z).length + i * k by rw [hk, cH]; omega, gE]
theorem zu {t e : TypeId} {x ih : Operand} {G : IntKind} {i : Int} (n : P.underlying t = some (.slice e)) (he : ∀ w, (sizeOf e).run P w = .ok k w) (o : je E x = v) (m : je E ih = .int G i) (h : jw e' enc k v l R) (hk : ∀ x, (enc x).length = k) (r : 0 ≤ i) (A : i ≤ l.length) :
  ∃ p, jw e' enc k p (l.take i.toNat) R ∧ ∀ W, kH P E ⟨d, .slice t x none (some ih) none, ty, pos, af, g⟩ W p W := by
 have b : i.toNat ≤ l.length := by omega
 rcases h with ⟨rfl, rfl, rfl⟩ | ⟨j, cap, c, rfl, rfl, h1, s, u, y⟩
 ·have : i = 0 := by simp at A; omega
  subst this
  refine ⟨.slice none 0 0, .inl ⟨rfl, by simp, rfl⟩, fun W => ?_⟩
  show (do pure (.value (← Instr.sliceAt t (je E x) none (some (je E ih)) none)) : Sem Next).run P W = _
  rw [o, m]
  simp [Instr.sliceAt, Instr.slice, Instr.sliceBounds, Instr.sliceBound, asIntOf, aR n, he W]
 ·refine ⟨.slice (some ⟨j, 0, none⟩) (l.take i.toNat).length cap, .inr ⟨j, cap, c, rfl, rfl, by simp; omega, s, u, ?_⟩, fun W => ?_⟩
  ·have q : (l.take i.toNat).length = i.toNat := by rw [cP]; omega
   have hle : i.toNat * k ≤ l.length * k := cI _ b
   rw [q, Co hk l i.toNat b, ← y, fR, dw hle]
  ·show (do pure (.value (← Instr.sliceAt t (je E x) none (some (je E ih)) none)) : Sem Next).run P W = _
   rw [o, m]
   have z : 0 ≤ i ∧ i ≤ (cap : Int) := ⟨r, by omega⟩
   simp [Instr.sliceAt, Instr.slice, Instr.sliceBounds, Instr.sliceBound, asIntOf, aR n, he W, z, dt]
   omega
theorem Di {s : oF α} {t e : TypeId} {x p : Operand} {ik : IntKind} {i : Int} (Y : P.underlying t = some (.slice e)) (he : ∀ w, (sizeOf e).run P w = .ok k w) (n : je E x = v) (O : je E p = .int ik i) (h : Sl s k μ v l) (u : 0 ≤ i) (Q : i ≤ l.length) :
  ∃ r, (Sl s k μ r (l.drop i.toNat) ∧ ∀ B, Fr B v → Fr B r) ∧ ∀ W, kH P E ⟨d, .slice t x (some p) none none, ty, pos, af, g⟩ W r W := by
 obtain ⟨A, c, rfl, h2, h3, z⟩ := h
 have R : i.toNat ≤ l.length := by omega
 refine ⟨.slice (if c = i.toNat then A else A.map (·.add (i.toNat * k))) (l.drop i.toNat).length (c - i.toNat), ⟨⟨_, _, rfl, by simp; omega, by omega, fun hp => ?_⟩, fun B M b m => ?_⟩, fun W => ?_⟩
 ·have U : i.toNat < l.length := by simp at hp; omega
  obtain ⟨b, off, cs, T, fr, rfl, G, I⟩ := z (by omega)
  refine ⟨b, off + i.toNat * k, cs, T, fr, ?_, G, fun j x n => ?_⟩
  ·rw [aU (by omega)]; simp [dt]
  ·rw [dE] at n
   obtain ⟨ys, J, L, o⟩ := I _ x n
   refine ⟨ys, J, L, fun q y Z => ?_⟩
   have := o q y Z
   rw [cH] at this
   rw [show off + i.toNat * k + j * k + q = off + (i.toNat * k + j * k) + q by omega]
   exact this
 ·refine M b ?_
  cases A with
  | none => simp [Value.ownBlock] at m
  | some a =>
   split at m
   ·exact m
   ·obtain ⟨b', o', s'⟩ := a
    cases s' <;> simp [Value.ownBlock, Addr.add] at m ⊢ <;> split at m <;> exact m
 ·show (do pure (.value (← Instr.sliceAt t (je E x) (some (je E p)) none none)) : Sem Next).run P W = _
  rw [n, O]
  have m : 0 ≤ i ∧ i ≤ (l.length : Int) := ⟨u, Q⟩
  simp [Instr.sliceAt, Instr.slice, Instr.sliceBounds, Instr.sliceBound, asIntOf, aR Y, he W, m]
end
end Go.Proofs.YtjjjihkifgdhgaaGreatDoor
namespace Go.Proofs.YtjjjihkifgdhgaaGreatDoor
open Go.RowKit
variable {dd : Bool}
section
variable {α : Type} {e : TypeId} {enc : α → List Value} {k : Nat} {v : Value} {l : List α} {R : List (Nat × Obj)} {μ : jx}
theorem jw.one (h : jw e enc k v l R) : v.oneCell' = true := by obtain ⟨A, c, rfl⟩ := h.form; rfl
theorem Sl.one {b : oF α} (h : Sl b k μ v l) : v.oneCell' = true := by obtain ⟨A, c, rfl⟩ := h.form; rfl
theorem Sl.isNil {g : oF α} {n c : Nat} (h : Sl g k μ (.slice none n c) l) : l = [] := by
 obtain ⟨A, m, h1, o, p, i⟩ := h
 cases h1
 rcases dY l.length with d | d
 ·exact ej.1 d
 ·obtain ⟨b, off, cs, T, fr, j, _⟩ := i d
  cases j
theorem jw.isNil {n c : Nat} (h : jw e enc k (.slice none n c) l R) : l = [] := by
 rcases h with ⟨h1, rfl, rfl⟩ | ⟨g, cap, b, h1, _⟩
 ·rfl
 ·cases h1
theorem ST.Ph {w W : World} {μ : jx} {L1 L2 : List (Nat × Obj)} (h : ST dd lG w W μ (L1 ++ L2)) : rr dd [] L1 w W :=
 rr.Gh h.ex (fun b o c => ⟨(h.box b o (cA _ c)).1, by
  rcases (h.box b o (cA _ c)).2.2 with h | h
  ·exact h
  ·exact h.elim⟩) (by have := h.nd; rw [bV] at this; exact (bO.1 this).1)
theorem ST.OU {w W : World} {μ : jx} {L0 L1 L2 : List (Nat × Obj)} (h : ST dd (keys L0) w W μ (L1 ++ L2)) : rr dd L0 L1 w W :=
 ⟨⟨h.os, h.tape, h.output, h.drawn, h.size, h.kO⟩, fun b o c => ⟨(h.box b o (cA _ c)).1, (h.box b o (cA _ c)).2.2⟩, by have := h.nd; rw [bV] at this; exact (bO.1 this).1⟩
end
end Go.Proofs.YtjjjihkifgdhgaaGreatDoor
namespace Go.Proofs.YtjjjihkifgdhgaaGreatDoor
open Go.RowKit
variable {dd : Bool}
def jX {κ β : Type} (beq : κ → κ → Bool) (l : List (κ × β)) (k : κ) : Option β := (l.find? (fun p => beq k p.1)).map (·.2)
def mS {κ β : Type} (beq : κ → κ → Bool) (l : List (κ × β)) (k : κ) (v : β) : List (κ × β) :=
 match l.findIdx? (fun p => beq k p.1) with
 | some i => l.set i (k, v)
 | none => l ++ [(k, v)]
structure sd {κ β : Type} (kenc : κ → Value) (vf : β → Value) (l : List (κ × β)) (es : Array MapEntry) (clock : Nat) : Prop where
 CM : es.toList.map (fun e => (e.key, e.val)) = l.map (fun p => (kenc p.1, vf p.2))
 born : es.toList.Pairwise (fun a b => a.born < b.born)
 lt : ∀ e ∈ es.toList, e.born < clock
def kD {κ β : Type} (kenc : κ → Value) (vf : β → Value) (v : Value) (l : List (κ × β)) (R : List (Nat × Obj)) : Prop :=
 ∃ m es clock, v = .map (some m) ∧ R = [(m, .map es clock)] ∧ sd kenc vf l es clock
def tN {κ β : Type} (kenc : κ → Value) (vf : β → Value) (μ : jx) (v : Value) (l : List (κ × β)) : Prop :=
 (v = .map none ∧ l = []) ∨ ∃ m es clock, v = .map (some m) ∧ μ m = some (.map es clock) ∧ sd kenc vf l es clock
theorem tN.mono {κ β : Type} {kenc : κ → Value} {vf : β → Value} {μ μ' : jx} {v : Value} {l : List (κ × β)} (h : tN kenc vf μ v l) (d : jC μ μ') : tN kenc vf μ' v l := by
 rcases h with h | ⟨m, es, clock, h1, b, c⟩
 ·exact .inl h
 ·exact .inr ⟨m, es, clock, h1, d _ _ b, c⟩
theorem kD.at {κ β : Type} {kenc : κ → Value} {vf : β → Value} {μ : jx} {v : Value} {l : List (κ × β)} {R : List (Nat × Obj)} (h : kD kenc vf v l R) (d : ∀ b o, (b, o) ∈ R → μ b = some o) : tN kenc vf μ v l := by
 obtain ⟨m, es, clock, rfl, rfl, c⟩ := h
 exact .inr ⟨m, es, clock, rfl, d _ _ (cK.2 rfl), c⟩
structure nX {κ : Type} (P : Program) (kt : TypeId) (kenc : κ → Value) (beq : κ → κ → Bool) : Prop where
 check : ∀ b k W, (Instr.checkKey b 10000 kt (kenc k)).run P W = .ok () W
 find : ∀ (k : κ) (l : List κ) (es : List MapEntry), es.map (·.key) = l.map kenc → ∀ W, (Instr.findKey kt (kenc k) es).run P W = .ok ((l.findIdx? (fun x => beq k x)).bind fun i => (es[i]?).map fun e => (i, e.val)) W
 eq : ∀ k x, beq k x = true → kenc x = kenc k
 bits : ∀ k, Instr.sameBits 10000 (kenc k) (kenc k) = true
section
variable {P : Program} {W : World} {κ : Type} {kt : TypeId} {kenc : κ → Value} {beq : κ → κ → Bool}
theorem AD (b : ∀ x y W, (Op.equal kt (kenc x) (kenc y)).run P W = .ok (beq x y) W) (k : κ) : ∀ (l : List κ) (es : List MapEntry) (i : Nat), es.map (·.key) = l.map kenc →
  (Instr.findAsking kt (kenc k) es i).run P W = .ok ((l.findIdx? (fun x => beq k x)).bind fun j => (es[j]?).map fun e => (i + j, e.val)) W
 | [], [], i, h => by simp [Instr.findAsking]
 | [], _ :: _, i, h => by simp at h
 | _ :: _, [], i, h => by simp at h
 | x :: l, e :: es, i, h => by
  simp only [bI, cM] at h
  obtain ⟨h1, c⟩ := h
  simp only [Instr.findAsking, bY, h1, b, bK, ew]
  cases d : beq k x with
  | true => simp
  | false =>
   simp only [aB, aF]
   rw [AD b k l es (i + 1) c]
   cases l.findIdx? (fun x => beq k x) with
   | none => rfl
   | some j => simp [dT, Nat.add_comm 1 j]
theorem HP {kind : TypeDesc} (hk : ∀ a b, Instr.sameNow kind (.agg a) b = none) (a : Array Value) : ∀ (es : List MapEntry) (i : Nat), Instr.findNow kind (.agg a) es i = if es = [] then some none else none
 | [], i => by simp [Instr.findNow]
 | e :: es, i => by simp [Instr.findNow, hk]
theorem nX.struct {enc : κ → List Value} {i : Array Field} (o : P.underlying kt = some (.struct i)) (n : ∀ d x y W, (Op.equalIn (d + 10) kt (.agg (enc x).toArray) (.agg (enc y).toArray)).run P W = .ok (beq x y) W) (m : ∀ b k W, (Instr.checkKey b 10000 kt (.agg (enc k).toArray)).run P W = .ok () W) (he : ∀ k x, beq k x = true → x = k) (j : ∀ k, Instr.sameBits 10000 (.agg (enc k).toArray) (.agg (enc k).toArray) = true) : nX P kt (fun x => .agg (enc x).toArray) beq where
 check := m
 find := fun k l es h W => by
  have c : ∀ x y W, (Op.equal kt (.agg (enc x).toArray) (.agg (enc y).toArray)).run P W = .ok (beq x y) W := fun x y W => n 9990 x y W
  simp only [Instr.findKey, bY, aR o, bK]
  rw [HP (fun a b => by cases b <;> rfl)]
  by_cases g : es = []
  ·subst g
   have : l = [] := by simpa using h.symm
   subst this
   simp
  ·rw [aU g]
   dsimp only
   rw [show Instr.findAsking kt (.agg (enc k).toArray) es = Instr.findAsking kt (.agg (enc k).toArray) es 0 from rfl, AD c k l es 0 h]
   simp
 eq := fun k x h => by rw [he k x h]
 bits := j
theorem kU {a b : ByteArray} : jP a b = true ↔ a = b := by
 unfold jP
 rw [eF, eF]
 constructor
 ·intro h
  have h1 : a.data.toList = b.data.toList := by simpa using h
  exact fB (Array.toList_inj.1 h1)
 ·rintro rfl
  simp
theorem BX (a b : ByteArray) : (a == b) = jP a b := by
 rw [bF, kU]
 constructor
 ·intro h
  have h1 : (a.data == b.data) = true := h
  exact fB (by simpa using h1)
 ·rintro rfl
  show (a.data == a.data) = true
  simp
theorem AI (k : ByteArray) : ∀ (l : List ByteArray) (es : List MapEntry) (i : Nat), es.map (·.key) = l.map Value.string →
  Instr.findNow .string (.string k) es i = some ((l.findIdx? (fun x => jP k x)).bind fun j => (es[j]?).map fun e => (i + j, e.val))
 | [], [], i, h => by simp [Instr.findNow]
 | [], _ :: _, i, h => by simp at h
 | _ :: _, [], i, h => by simp at h
 | x :: l, e :: es, i, h => by
  simp only [bI, cM] at h
  obtain ⟨h1, b⟩ := h
  simp only [Instr.findNow, h1, Instr.sameNow, BX, ew]
  cases c : jP k x with
  | true => simp
  | false =>
   simp only [aB, aF]
   rw [AI k l es (i + 1) b]
   cases l.findIdx? (fun x => jP k x) with
   | none => rfl
   | some j => simp [dT, Nat.add_comm 1 j]
theorem wo (c : P.underlying kt = some .string) (n : Nat) (b : Bool) (k : ByteArray) (W : World) : (Instr.checkKey b (n + 1) kt (.string k)).run P W = .ok () W := by
 simp [Instr.checkKey, aR c]
theorem nX.string (c : P.underlying kt = some .string) : nX P kt Value.string jP where
 check := fun b k W => wo c 9999 b k W
 find := fun k l es h W => by
  simp only [Instr.findKey, bY, aR c, bK]
  have := AI k l es 0 h
  rw [this]
  simp
 eq := fun k x h => by rw [kU.1 h]
 bits := fun k => by simp only [Instr.sameBits]; rw [BX]; exact kU.2 rfl
variable {β : Type} {vf : β → Value} {E : Nat → Value} {d : Option Nat} {ty : TypeId} {pos : String} {af : Array Edge} {g : Option (Nat × Bool)} {F : Nat → Prop} {w : World} {μ : jx} {L : List (Nat × Obj)}
theorem sd.keys {l : List (κ × β)} {es : Array MapEntry} {clock : Nat} (h : sd kenc vf l es clock) : es.toList.map (·.key) = (l.map (·.1)).map kenc := by
 have := bA (List.map Prod.fst) h.CM
 simpa [eZ] using this
theorem sd.length {l : List (κ × β)} {es : Array MapEntry} {clock : Nat} (h : sd kenc vf l es clock) : es.size = l.length := by
 have := bA List.length h.CM
 simpa using this
theorem sd.get {l : List (κ × β)} {es : Array MapEntry} {clock : Nat} (h : sd kenc vf l es clock) (k : κ) :
  (((l.map (·.1)).findIdx? (fun x => beq k x)).bind fun i => (es.toList[i]?).map fun e => (i, e.val)) = (l.findIdx? (fun p => beq k p.1)).bind fun i => (l[i]?).map fun p => (i, vf p.2) := by
 rw [fS]
 show ((l.findIdx? (fun p => beq k p.1)).bind _) = _
 congr 1
 funext i
 have := bA (fun q => q[i]?) h.CM
 simp only [ek] at this
 cases h1 : es.toList[i]? with
 | none => rw [h1] at this; cases b : l[i]? with
  | none => rfl
  | some p => rw [b] at this; cases this
 | some e => rw [h1] at this; cases b : l[i]? with
  | none => rw [b] at this; cases this
  | some p => rw [b] at this; simp at this; simp [this.2]
theorem vp (l : List (κ × β)) (k : κ) : jX beq l k = (l.findIdx? (fun p => beq k p.1)).bind fun i => (l[i]?).map (·.2) := by
 induction l with
 | nil => rfl
 | cons p l ih =>
  simp only [jX, fF, ew] at ih ⊢
  cases beq k p.1 with
  | true => rfl
  | false =>
   simp only [aB, aF]
   rw [ih]
   cases l.findIdx? (fun p => beq k p.1) <;> simp
theorem GL {t e : TypeId} {m x : Operand} {r z : Value} {l : List (κ × β)} {k : κ} (K : nX P kt kenc beq) (o : P.underlying t = some (.map kt e)) (c : ∀ w, (zeroValue e).run P w = .ok z w) (hm : je E m = r) (y : je E x = kenc k) (u : tN kenc vf (hp W) r l) :
  kH P E ⟨d, .lookup t m x false, ty, pos, af, g⟩ W (((jX beq l k).map vf).getD z) W := by
 show (do pure (.value (← Instr.lookup t (je E m) (je E x) false)) : Sem Next).run P W = _
 rw [hm, y]
 rcases u with ⟨rfl, rfl⟩ | ⟨q, es, clock, rfl, v, h⟩
 ·have := K.find k [] [] rfl W
  simp [Instr.lookup, aR o, K.check, this, c W, jX]
 ·have b : W.heap[q]? = some (.map es clock) := v
  have s : (getObj q : Sem Obj).run P W = .ok (.map es clock) W := by simp [getObj, Sem.run, b]
  have j := K.find k _ _ h.keys W
  rw [h.get k] at j
  simp only [Instr.lookup, bY, aR o, bK, s, cW, K.check, j, vp]
  cases A : l.findIdx? (fun p => beq k p.1) with
  | none => simp [c W]
  | some i =>
   cases n : l[i]? with
   | none => simp [n, c W]
   | some p => simp [n]
theorem pY {l : List (κ × β)} {k : κ} {i : Nat} (h : l.findIdx? (fun p => beq k p.1) = some i) : ∃ p, l[i]? = some p ∧ beq k p.1 = true := by
 rw [dS] at h
 obtain ⟨h1, b, _⟩ := h
 exact ⟨l[i], dx h1, b⟩
theorem sd.put {l : List (κ × β)} {es : Array MapEntry} {clock : Nat} (h : sd kenc vf l es clock) (k : κ) (v : β) :
  match l.findIdx? (fun p => beq k p.1) with
  | some i => sd kenc vf (l.set i (k, v)) (es.modify i fun e => { e with key := kenc k, val := vf v }) clock
  | none => sd kenc vf (l ++ [(k, v)]) (es.push { key := kenc k, val := vf v, born := clock }) (clock + 1) := by
 cases o : l.findIdx? (fun p => beq k p.1) with
 | none =>
  refine ⟨?_, ?_, ?_⟩
  ·simp [h.CM]
  ·simp only [Array.toList_push, cL]
   exact ⟨h.born, by simp, fun a ha b n => by simp at n; subst n; exact h.lt a ha⟩
  ·intro e he
   simp at he
   rcases he with he | rfl
   ·exact Nat.lt_succ_of_lt (h.lt e (by simpa using he))
   ·exact bM _
 | some i =>
  obtain ⟨p, hp, _⟩ := pY o
  have t : i < l.length := (aY.1 hp).1
  have c : (es.modify i fun e => { e with key := kenc k, val := vf v }).toList.map (·.born) = es.toList.map (·.born) := by
   apply ei
   intro j
   simp only [ek, dB, dA]
   split
   ·cases es[j]? <;> simp
   ·rfl
  refine ⟨?_, ?_, ?_⟩
  ·apply ei
   intro j
   have g := bA (fun q => q[j]?) h.CM
   simp only [ek, dB] at g
   simp only [ek, dB, dA, eA]
   by_cases d : i = j
   ·subst d
    simp only [aJ]
    rw [aW t]
    cases r : es[i]? with
    | none => rw [r, hp] at g; cases g
    | some e => rfl
   ·rw [aU d, aU d]; exact g
  ·have := h.born
   rw [← fa (f := fun e : MapEntry => e.born) (R := (· < ·))] at this ⊢
   rw [c]; exact this
  ·intro e he
   have : e.born ∈ es.toList.map (·.born) := by rw [← c]; exact bG.2 ⟨e, he, rfl⟩
   obtain ⟨e', m, s⟩ := bG.1 this
   rw [← s]; exact h.lt e' m
theorem vU {W : World} {r : Nat} {es : Array MapEntry} {c : Nat} (d : W.heap[r]? = some (.map es c)) (b : Obj) : (setObj r b).run P W = .ok () (ChangeMaps.setBlock W r b) := by
 simp [setObj, Sem.run, d, ChangeMaps.setBlock]
theorem ST.setBlock {A B : List (Nat × Obj)} {b : Nat} {o : Obj} (h : ST dd F w W μ (A ++ (b, o) :: B)) (d : Obj) : ST dd F w (ChangeMaps.setBlock W b d) μ (A ++ (b, d) :: B) := by
 have g := (h.box b o (by simp)).1
 have c := mR g
 refine h.put ⟨rfl, rfl, rfl, aQ _, by simp [ChangeMaps.setBlock]⟩ (fun k hk => ?_) ?_
 ·simp only [ChangeMaps.setBlock]
  rw [Array.getElem?_setIfInBounds_ne (fun e => hk e.symm)]
 ·simp only [ChangeMaps.setBlock]
  rw [Array.getElem?_setIfInBounds_self_of_lt c]
theorem Aa {I : Value → World → Prop} (X : List (Nat × Obj)) {Y R : List (Nat × Obj)} {t e : TypeId} {m x y : Operand} {G : Value} {l : List (κ × β)} {k : κ} {v : β} (K : nX P kt kenc beq) (M : P.underlying t = some (.map kt e)) (n : ST dd F w W μ (X ++ (R ++ Y))) (h : kD kenc vf G l R) (hm : je E m = G) (Q : je E x = kenc k) (T : je E y = vf v) (L : ∀ W' R', ST dd F w W' μ (X ++ (R' ++ Y)) → kD kenc vf G (mS beq l k v) R' → I undef W') : ma P E ⟨d, .mapUpdate t m x y, ty, pos, af, g⟩ W I := by
 obtain ⟨c, es, clock, rfl, rfl, u⟩ := h
 have z : W.heap[c]? = some (.map es clock) := (n.box c (.map es clock) (by simp)).1
 have J : (getObj c : Sem Obj).run P W = .ok (.map es clock) W := by simp [getObj, Sem.run, z]
 have o := K.find k _ _ u.keys W
 rw [u.get k] at o
 have b := u.put (beq := beq) k v
 have j : ∀ W', (Instr.mapUpdate t (.map (some c)) (kenc k) (vf v)).run P W = .ok () W' → (execOp (je E) ⟨d, .mapUpdate t m x y, ty, pos, af, g⟩).run P W = .ok .skip W' := by
  intro W' O
  show (do Instr.mapUpdate t (je E m) (je E x) (je E y); pure .skip : Sem Next).run P W = _
  rw [hm, Q, T]
  simp [O]
 cases r : l.findIdx? (fun p => beq k p.1) with
 | none =>
  rw [r] at o b
  refine .inr (.inl ⟨ChangeMaps.setBlock W c (.map (es.push { key := kenc k, val := vf v, born := clock }) (clock + 1)), j _ ?_, L _ [(c, _)] (n.setBlock _) ⟨c, _, _, rfl, rfl, ?_⟩⟩)
  ·simp [Instr.mapUpdate, aR M, J, K.check, o, vU z]
  ·rw [mS, r]; exact b
 | some i =>
  obtain ⟨p, hp, A⟩ := pY r
  rw [r] at o b
  simp only [aA, hp, dW] at o
  have s : ((es[i]?).map (·.key)).getD (kenc k) = kenc k := by
   have := bA (fun q => q[i]?) u.keys
   simp only [ek, hp, dW, dB] at this
   rw [this]
   simp [K.eq k p.1 A]
  refine .inr (.inl ⟨ChangeMaps.setBlock W c (.map (es.modify i fun e => { e with key := kenc k, val := vf v }) clock), j _ ?_, L _ [(c, _)] (n.setBlock _) ⟨c, _, _, rfl, rfl, ?_⟩⟩)
  ·simp only [Instr.mapUpdate, bY, aR M, J, K.check, o, bK, s, Instr.keyThatStays, K.bits, aJ, cW]
   exact vU z _
  ·rw [mS, r]; exact b
theorem FG {c : Value → World → Prop} {t : TypeId} (kenc : κ → Value) (vf : β → Value) (b : ST dd F w W μ L) (h : ∀ W' v R, ST dd F w W' μ (R ++ L) → kD kenc vf v [] R → c v W') : ma P E ⟨d, .makeMap t none, ty, pos, af, g⟩ W c :=
 .inl ⟨.map (some W.heap.size), W.alloc (.map #[] 0), by
   show (do pure (.value (← Instr.makeMap t none)) : Sem Next).run P W = _
   simp [Instr.makeMap, newObj, Sem.run], h _ _ [(W.heap.size, .map #[] 0)] (b.alloc _) ⟨_, _, _, rfl, rfl, ⟨rfl, by simp, by simp⟩⟩⟩
end
end Go.Proofs.YtjjjihkifgdhgaaGreatDoor
namespace Go.Proofs.YtjjjihkifgdhgaaGreatDoor
open Go.RowKit
variable {dd : Bool}
open Classical in
noncomputable def BW {α β : Type} (l : List α) (f : List α → Option β) : Option β :=
 if h : ∃ r, ∀ o, o.Perm l → f o = some r then some h.choose else none
theorem DS {α β : Type} {l : List α} {f : List α → Option β} {r : β} (h : ∀ o, o.Perm l → f o = some r) : BW l f = some r := by
 have b : ∃ r, ∀ o, o.Perm l → f o = some r := ⟨r, h⟩
 unfold BW
 rw [dif_pos b]
 have h1 := b.choose_spec l (.refl l)
 rw [h l (.refl l)] at h1
 exact h1.symm
end Go.Proofs.YtjjjihkifgdhgaaGreatDoor
namespace Go.Proofs.YtjjjihkifgdhgaaGreatDoor
open Go.RowKit
variable {dd : Bool}
def GD {α β : Type} (P : Program) (fv : Value) (μ : jx) (c : α → List Value) (d : β → Value) (pm : α → Option β) : Prop :=
 ∃ f b, fv = .func (.func f) #[] b ∧ (∀ args w, (callFunc f args).run P w = .ok (.enter f args) w) ∧ ∀ W x r, jC μ (hp W) → pm x = some r → jO true P f (c x ++ b.toList) W (d r)
def wL {α β : Type} (P : Program) (fv : Value) (μ : jx) (c : α → List Value) (d : β → Value) (pm : α → Option β) : Prop :=
 ∃ f first b, fv = .func (.func f) first b ∧ (∀ args w, (callFunc f args).run P w = .ok (.enter f args) w) ∧ ∀ W x r, jC μ (hp W) → pm x = some r → jO false P f (first.toList ++ (c x ++ b.toList)) W (d r)
theorem wL.form {α β : Type} {P : Program} {fv : Value} {μ : jx} {c : α → List Value} {d : β → Value} {pm : α → Option β} (h : wL P fv μ c d pm) : ∃ f a b, fv = .func f a b := let ⟨f, a, b, h, _⟩ := h; ⟨_, a, b, h⟩
section
variable {P : Program} {W : World} {E : Nat → Value} {d : Option Nat} {ty : TypeId} {pos : String} {af : Array Edge} {g : Option (Nat × Bool)} {F : Nat → Prop} {w : World} {μ μ0 : jx} {L : List (Nat × Obj)}
theorem wL.mono {α β : Type} {fv : Value} {c : α → List Value} {d : β → Value} {pm : α → Option β} (h : wL P fv μ c d pm) (j : jC μ μ0) : wL P fv μ0 c d pm := by
 obtain ⟨f, first, b, h1, g, i⟩ := h
 exact ⟨f, first, b, h1, g, fun W x r h => i W x r (j.trans h)⟩
theorem LF {α β : Type} {K : Value → World → Prop} {fv : Value} {i : α → List Value} {m : β → Value} {pm : α → Option β} {j : Operand} {ax : Array Operand} {ats : Array TypeId} (x : α) {r : β} (c : ST false F w W μ L) (s : wL P fv μ0 i m pm) (u : jC μ0 μ) (t : je E j = fv) (ha : ax.map (je E) ++ (#[] : Array Value) = (i x).toArray) (hm : pm x = some r) (h : ∀ W', ST false F w W' μ L → K (m r) W') : ma P E ⟨d, .call ⟨.value j, ax, ats⟩, ty, pos, af, g⟩ W K := by
 obtain ⟨f, first, b, rfl, n, o⟩ := s
 have l : ax.map (je E) = (i x).toArray := by simpa using ha
 refine .inr (.inr ⟨f, (first.toList ++ (i x ++ b.toList)).toArray, ?_, cR (o W x r (u.trans c.jk) hm) (fun _ _ ⟨p, q⟩ => ⟨_, p, h _ (c.Ew q)⟩)⟩)
 show (do let d ← resolve (je E) ⟨.value j, ax, ats⟩ ty; invoke d.target d.args : Sem Next).run P W = _
 simp only [resolve, t, Deferred.ofValue, bY, cW, bK, invoke, l, n]
 congr 2
 simp
end
end Go.Proofs.YtjjjihkifgdhgaaGreatDoor
namespace Go.Proofs.YtjjjihkifgdhgaaGreatDoor
open Go.RowKit
variable {dd : Bool}
def zK (A : List (Nat × Obj)) : jx := fun b => (A.find? (fun p => p.1 == b)).map (·.2)
theorem kT {A : List (Nat × Obj)} {W : World} (h : ∀ b o, (b, o) ∈ A → W.heap[b]? = some o) : ∀ b o, zK A b = some o → W.heap[b]? = some o := fun b o c => by
 unfold zK at c
 cases d : A.find? (fun p => p.1 == b) with
 | none => rw [d] at c; cases c
 | some p =>
  rw [d] at c
  cases c
  have h1 := List.mem_of_find?_eq_some d
  have g := List.find?_some d
  simp at g
  subst g
  exact h _ _ h1
theorem At.of {M : jx} {b : Nat} {cs : Array Value} {T : TypeId} {fr : Nat × Nat} (h : M b = some (.cells cs T fr)) (ys : List Value) (d : cs.toList = ys) : At M (.pointer (some ⟨b, 0, none⟩)) ys :=
 ⟨b, 0, cs, T, fr, rfl, h, fun j y c => by subst d; simpa using c⟩
section
variable {F : Nat → Prop} {w W W' : World} {μ μ' : jx} {L L0 L1 L2 : List (Nat × Obj)}
theorem ST.Ip (h : ST dd F w W μ L) (c : L.Perm (L0 ++ L2)) : ∀ b o, (b, o) ∈ L2 → rU W L0 b = some o := fun b o d => by
 have h1 := (h.perm c).at_ (dI _ d)
 unfold rU
 rw [aU (CH (h.perm c).nd d)]
 exact h1
theorem ST.held (h : ST dd F w W μ L) (c : L.Perm (L0 ++ L2)) : BU L0 W := fun b o d => ((h.perm c).box b o (cA _ d)).1
theorem ST.On (h : ST dd F w W μ L) (b : L.Perm (L0 ++ L2)) : (L0.map (·.1)).Nodup := by
 have := (h.perm b).nd
 rw [bV] at this
 exact (bO.1 this).1
theorem ST.Oc (h : ST dd F w W μ L) (b : L.Perm (L0 ++ L2)) : jC μ (rU W L0) := (h.perm b).kz (fun _ hp => cA _ hp)
end
section
variable {P : Program} {E : Nat → Value} {W : World} {d : Option Nat} {ty : TypeId} {pos : String} {af : Array Edge} {g : Option (Nat × Bool)}
 {F : Nat → Prop} {w : World} {μ : jx} {L : List (Nat × Obj)}
theorem Nl {K : Value → World → Prop} {K' : Value → List (Nat × Obj) → World → Prop} {f : FuncId} {fv : Operand} {ax : Array Operand} {ats : Array TypeId} {i : Array Value} {args : List Value} (L0 L2 : List (Nat × Obj)) (c : ST dd F w W μ L) (j : L.Perm (L0 ++ L2)) (q : je E fv = .func (.func f) #[] i) (he : ∀ args w, (callFunc f args).run P w = .ok (.enter f args) w) (ha : ax.map (je E) ++ (#[] : Array Value) = args.toArray) (p : BU L0 W → (L0.map (·.1)).Nodup → jC μ (rU W L0) → (∀ b o, (b, o) ∈ L2 → rU W L0 b = some o) → kw dd P f (args ++ i.toList) W L0 K') (h : ∀ W' v μ' L1, ST dd F w W' μ' (L1 ++ L2) → jC μ μ' → Lo F w μ μ' → (∀ b, W.heap.size ≤ b → ∀ o, rU W' L1 b = some o → μ' b = some o) → K' v L1 W' → K v W') : ma P E ⟨d, .call ⟨.value fv, ax, ats⟩, ty, pos, af, g⟩ W K := by
 have l : ax.map (je E) = args.toArray := by simpa using ha
 refine CG (args := (args ++ i.toList).toArray) q he (by rw [l]; simp) (cR (p (c.held j) (c.On j) (c.Oc j) (c.Ip j)) (fun _ W' ⟨v, L1, h1, m, n⟩ => ⟨v, h1, h W' v _ L1 ((c.perm j).back m) ((c.perm j).FH W' L1) ((c.perm j).Ha W' L1) ?_ n⟩))
 intro b s o r
 unfold ze
 rw [aU (by omega)]
 exact r
theorem Sl.lift {α : Type} {enc : α → List Value} {k : Nat} {M μ' : jx} {B : Nat} {v : Value} {l : List α} (h : Sl (Pl enc) k M v l) (q : Fr B v) (p : ∀ b, B ≤ b → ∀ o, M b = some o → μ' b = some o) : Sl (Pl enc) k μ' v l := by
 obtain ⟨A, c, h1, g, i, j⟩ := h
 refine ⟨A, c, h1, g, i, fun r => ?_⟩
 obtain ⟨b, off, cs, T, fr, d, m, n⟩ := j r
 exact ⟨b, off, cs, T, fr, d, p b (q b (by rw [h1, d]; rfl)) _ m, n⟩
theorem Ds {t : TypeId} (dd : Nat) {s u : Array TypeId} {b : Bool} (d : P.underlying t = some (.func s u b)) (f : Fn) (a c : Array Value) (W : World) : (Op.equalIn (dd + 1) t (.func f a c) .nilFunc).run P W = .ok false W := by
 simp [Op.equalIn, aR d]
end
def xi {κ β : Type} (beq : κ → κ → Bool) (l : List (κ × β)) (k : κ) (z : β) : β := (jX beq l k).getD z
section
variable {P : Program} {W : World} {κ β : Type} {kt : TypeId} {kenc : κ → Value} {beq : κ → κ → Bool} {vf : β → Value} {E : Nat → Value} {d : Option Nat} {ty : TypeId} {pos : String} {af : Array Edge} {g : Option (Nat × Bool)} {F : Nat → Prop} {w : World} {μ : jx} {L R : List (Nat × Obj)} {v : Value} {left : List (κ × β)}
theorem xy {t e : TypeId} {m x : Operand} {b : Value} {l : List (κ × β)} {k : κ} {z : β} (K : nX P kt kenc beq) (i : P.underlying t = some (.map kt e)) (n : ∀ w, (zeroValue e).run P w = .ok (vf z) w) (hm : je E m = b) (j : je E x = kenc k) (c : tN kenc vf (hp W) b l) :
  kH P E ⟨d, .lookup t m x false, ty, pos, af, g⟩ W (vf (xi beq l k z)) W := by
 have := GL (d := d) (ty := ty) (pos := pos) (af := af) (g := g) K i n hm j c
 rw [xi]
 cases h : jX beq l k with
 | none => rw [h] at this; exact this
 | some y => rw [h] at this; exact this
theorem kD.one {b : Value} {l : List (κ × β)} (h : kD kenc vf b l R) : b.oneCell' = true := by obtain ⟨m, es, clock, rfl, _⟩ := h; rfl
theorem kD.form {b : Value} {l : List (κ × β)} (h : kD kenc vf b l R) : ∃ m, b = .map (some m) := by obtain ⟨m, es, clock, rfl, _⟩ := h; exact ⟨m, rfl⟩
theorem kD.nd {b : Value} {l : List (κ × β)} (h : kD kenc vf b l R) : (R.map (·.1)).Nodup := by obtain ⟨m, es, clock, rfl, rfl, _⟩ := h; simp
end
def nv {α : Type} (l : List α) (i : Nat) (z : α) : List α := l.take i ++ List.replicate (l.length - i) z
theorem te {α : Type} (l : List α) (i : Nat) (z : α) (h : i ≤ l.length) : (nv l i z).length = l.length := by simp [nv]; omega
theorem Dj {α : Type} (l : List α) (i : Nat) (z : α) (h : i ≤ l.length) : (nv l i z).take i = l.take i := by
 simp only [nv]
 rw [eG, du (by simp; omega)]
 simp; omega
end Go.Proofs.YtjjjihkifgdhgaaGreatDoor
namespace Go.Proofs.YtjjjihkifgdhgaaGreatDoor
open Go.RowKit
theorem FO {P : Program} {cs : Array Value} {b : Bool} {n : Nat} {W : World} : ∀ (l : List Field),
  (∀ f ∈ l, f.name ≠ "_" → ∃ v, (part f.type cs f.offset).run P W = .ok v W ∧ (Instr.checkKey b n f.type v).run P W = .ok () W) →
  ((forIn l PUnit.unit fun f (_ : PUnit) => do
   if f.name ≠ "_" then Instr.checkKey b n f.type (← part f.type cs f.offset)
   pure (ForInStep.yield PUnit.unit)) : Sem PUnit).run P W = .ok PUnit.unit W
 | [], _ => by simp
 | f :: l, h => by
  have ih := FO l (fun f g => h f (eB _ g))
  simp only [List.forIn_cons, bY]
  by_cases c : f.name ≠ "_"
  ·obtain ⟨v, h1, d⟩ := h f (by simp) c
   simp only [aW c, bY, h1, bK, d, cW]
   exact ih
  ·simp only [aU c, bY, cW, bK]
   exact ih
theorem D6 {P : Program} {kt : TypeId} {c : Array Field} {l : List Field} {cs : Array Value} {b : Bool} {n : Nat} {W : World} (g : P.underlying kt = some (.struct c)) (d : c.toList = l) (h : ∀ f ∈ l, f.name ≠ "_" → ∃ v, (part f.type cs f.offset).run P W = .ok v W ∧ (Instr.checkKey b n f.type v).run P W = .ok () W) : (Instr.checkKey b (n + 1) kt (.agg cs)).run P W = .ok () W := by
 obtain ⟨c⟩ := c
 subst d
 simp only [Instr.checkKey, bY, aR g, bK, List.forIn_toArray]
 have := FO (P := P) (cs := cs) (b := b) (n := n) (W := W) c h
 simp only [bY] at this
 first | rw [this]; rfl | simpa using this
variable {dd : Bool}
def pH (b : Bool) : Option Unit := if b = true then some () else none
theorem GV {b : Bool} {u : Unit} (h : pH b = some u) : b = true := by
 unfold pH at h; split at h
 ·assumption
 ·cases h
theorem tR {a c : Int} {u : Unit} (h : pH (decide (0 ≤ a) && decide (a ≤ c)) = some u) : 0 ≤ a := by have := GV h; simp at this; exact this.1
theorem tO {a c : Int} {u : Unit} (h : pH (decide (0 ≤ a) && decide (a ≤ c)) = some u) : a ≤ c := by have := GV h; simp at this; exact this.2
def yj (k : Nat) (v : Value) (i : Nat) (u : Value) : Prop := ∃ A n c A' d, v = .slice A n c ∧ u = .slice A' (n - i) d ∧ i ≤ n ∧ (i < n → ∃ b o, A = some ⟨b, o, none⟩ ∧ A' = some ⟨b, o + i * k, none⟩)
section
variable {P : Program} {E : Nat → Value} {W : World} {d : Option Nat} {ty : TypeId} {pos : String} {af : Array Edge} {g : Option (Nat × Bool)}
 {F : Nat → Prop} {w : World} {μ : jx} {L : List (Nat × Obj)} {α : Type} {e' : TypeId} {enc : α → List Value} {k : Nat} {v : Value} {l : List α} {R : List (Nat × Obj)}
theorem xn {t e : TypeId} {x b : Operand} {y : IntKind} {i : Int} (n : P.underlying t = some (.slice e)) (he : ∀ w, (sizeOf e).run P w = .ok k w) (o : je E x = v) (j : je E b = .int y i) (h : jw e' enc k v l R) (q : 0 ≤ i) (m : i ≤ l.length) :
  ∃ u, yj k v i.toNat u ∧ ∀ W, kH P E ⟨d, .slice t x (some b) none none, ty, pos, af, g⟩ W u W := by
 rcases h with ⟨rfl, rfl, rfl⟩ | ⟨c, cap, p, rfl, rfl, h1, z, A, G⟩
 ·have : i = 0 := by simp at m; omega
  subst this
  refine ⟨.slice none 0 0, ⟨none, 0, 0, none, 0, rfl, rfl, aQ _, fun h => absurd h (by simp)⟩, fun W => ?_⟩
  show (do pure (.value (← Instr.sliceAt t (je E x) (some (je E b)) none none)) : Sem Next).run P W = _
  rw [o, j]
  simp [Instr.sliceAt, Instr.slice, Instr.sliceBounds, Instr.sliceBound, asIntOf, aR n, he W]
 ·refine ⟨.slice (some (if cap = i.toNat then ⟨c, 0, none⟩ else (Addr.add ⟨c, 0, none⟩ (i.toNat * k)))) (l.length - i.toNat) (cap - i.toNat), ⟨_, _, _, _, _, rfl, rfl, by omega, fun s => ⟨c, 0, rfl, ?_⟩⟩, fun W => ?_⟩
  ·rw [aU (by omega)]; simp [dt]
  ·show (do pure (.value (← Instr.sliceAt t (je E x) (some (je E b)) none none)) : Sem Next).run P W = _
   rw [o, j]
   have r : 0 ≤ i ∧ i ≤ (l.length : Int) := ⟨q, m⟩
   simp [Instr.sliceAt, Instr.slice, Instr.sliceBounds, Instr.sliceBound, asIntOf, aR n, he W, r]
   split <;> rfl
theorem yL {i j : Nat} {x0 : α} (h : (l.drop i)[j]? = some x0) : l[i + j]? = some x0 := by rwa [dE] at h
theorem FJ {t e : TypeId} {x : Operand} {u : Value} {i : Nat} (m : P.underlying t = some (.slice e)) (o : je E x = u) (hu : yj k v i u) (h : jw e' enc k v l R) : kH P E ⟨d, .call ⟨.builtin .len, #[x], #[t]⟩, ty, pos, af, g⟩ W (.int .i64 ((l.length - i : Nat) : Int)) W := by
 obtain ⟨A, n, c, A', p, h1, j, r, _⟩ := hu
 subst j
 have : n = l.length := by
  rcases h with ⟨rfl, rfl, rfl⟩ | ⟨q, cap, b, rfl, rfl, _⟩
  ·cases h1; rfl
  ·cases h1; rfl
 subst this
 exact xa m o
theorem xu {t e : TypeId} {x q : Operand} {T : IntKind} {i : Int} {x0 : α} {u : Value} {o : Nat} (O : P.underlying t = some (.slice e)) (he : ∀ w, (sizeOf e).run P w = .ok k w) (Q : je E x = u) (L : je E q = .int T i) (h : jw e' enc k v l R) (hu : yj k v o u) (G : 0 ≤ i) (M : (l.drop o)[i.toNat]? = some x0) :
  ∃ p, xv R k p (o + i.toNat) ∧ ∀ W, kH P E ⟨d, .indexAddr t x q, ty, pos, af, g⟩ W p W := by
 have j := yL M
 have m : o + i.toNat < l.length := (aY.1 j).1
 rcases h with ⟨rfl, rfl, rfl⟩ | ⟨z, cap, r, rfl, rfl, h1, Y, Z, h4⟩
 ·simp at m
 obtain ⟨A, n, c, A', U, s, rfl, h7, I⟩ := hu
 cases s
 obtain ⟨b, oo, y, rfl⟩ := I (by omega)
 cases y
 refine ⟨.pointer (some ⟨z, (o + i.toNat) * k, none⟩), ⟨_, _, rfl, rfl⟩, fun W => ?_⟩
 show (do pure (.value (← Instr.indexAt t (je E x) (je E q))) : Sem Next).run P W = _
 rw [Q, L]
 have J : 0 ≤ i ∧ i < ((l.length - o : Nat) : Int) := ⟨G, by omega⟩
 simp [Instr.indexAt, asIntOf, aR O, he W, J, dt, cH]
theorem Az (ys : List Value) (m : Nat) : (Builtin.zeroCells ys.toArray m).toList = (List.replicate m ys).flatten := by
 unfold Builtin.zeroCells
 simp only [Array.toList_map, Array.toList_range, dn]
 rcases dY ys.length with b | b
 ·have : ys = [] := ej.1 b
  subst this
  simp
 apply ei
 intro q
 by_cases d : q < m * ys.length
 ·have h1 : q / ys.length < m := (Nat.div_lt_iff_lt_mul b).2 d
  have c : q % ys.length < ys.length := Nat.mod_lt _ b
  have := vu (enc := fun _ : Unit => ys) (fun _ => rfl) (List.replicate m ()) (q / ys.length) () (by simp [h1]) (q % ys.length) ys[q % ys.length] (by simp [c])
  rw [Nat.div_add_mod' q ys.length] at this
  rw [gL] at this
  rw [this]
  simp [d, c]
 ·rw [eX (by simp; omega), eX (by simp; omega)]
theorem HW {K : Value → World → Prop} (z : α) (X : List (Nat × Obj)) {Y : List (Nat × Obj)} {t e : TypeId} {x : Operand} {u zv : Value} {i : Nat} (q : ST dd F w W μ (X ++ (R ++ Y))) (h : jw e' enc k v l R) (hk : ∀ x, (enc x).length = k) (h1 : ∀ x, ∀ u ∈ enc x, u.oneCell' = true) (Q : P.underlying t = some (.slice e)) (hz : ∀ w, (zeroValue e).run P w = .ok zv w) (hu : yj k v i u) (hc : zv.cells = (enc z).toArray) (hx : je E x = u) (M : ∀ W' R', ST dd F w W' μ (X ++ (R' ++ Y)) → jw e' enc k v (nv l i z) R' → K (.tuple #[]) W') : ma P E ⟨d, .call ⟨.builtin .clear, #[x], #[t]⟩, ty, pos, af, g⟩ W K := by
 have p : ∀ (W' : World), (Builtin.clear_ #[t] ty #[u]).run P W = .ok (.tuple #[]) W' → (execOp (je E) ⟨d, .call ⟨.builtin .clear, #[x], #[t]⟩, ty, pos, af, g⟩).run P W = .ok (.value (.tuple #[])) W' := by
  intro W' hV
  show (do let d ← resolve (je E) ⟨.builtin .clear, #[x], #[t]⟩ ty; invoke d.target d.args : Sem Next).run P W = _
  simp [resolve, invoke, builtin, hx, hV]
 obtain ⟨A, n, c, A', c', e1, rfl, G, h8⟩ := hu
 rcases h with ⟨rfl, rfl, rfl⟩ | ⟨s, cap, j, rfl, rfl, Z, q2, J, q4⟩
 ·cases e1
  refine .inl ⟨_, W, p W ?_, M W [] q (by simpa [nv] using jw.nil e' enc k)⟩
  simp only [Builtin.clear_, Nat.zero_sub]
  cases A' <;> simp [aR Q]
 ·cases e1
  by_cases hi : i < l.length
  ·obtain ⟨b, o, e2, rfl⟩ := h8 hi
   cases e2
   have U : ∀ m, (Builtin.zeroCells zv.cells m).toList = (List.replicate m (enc z)).flatten := by
    intro m
    rw [hc]; exact Az _ _
   have hb := (q.box s (.cells j e' (0, 0)) (by simp)).1
   have hle : i * k + (l.length - i) * k = l.length * k := by rw [← cH]; congr 1; omega
   have hlen : l.length * k ≤ c * k := cI _ Z
   have r : ((List.replicate (l.length - i) (enc z)).flatten).length = (l.length - i) * k := by simp [hk]
   have y : ∀ v ∈ (List.replicate (l.length - i) (enc z)).flatten, v.oneCell' = true := by
    intro v I
    obtain ⟨ys, T, I⟩ := iz.1 I
    rw [(List.mem_replicate.1 T).2] at I
    exact h1 z v I
   have hs := gW (P := P) s (i * k) e' ((List.replicate (l.length - i) (enc z)).flatten) 0 j W hb (by rw [r, J]; omega) y
   rw [fT, r, hle] at hs
   refine .inl ⟨_, W.setRow s (j.toList.take (i * k) ++ (List.replicate (l.length - i) (enc z)).flatten ++ j.toList.drop (l.length * k)).toArray, p _ ?_, M _ [(s, .cells (j.toList.take (i * k) ++ (List.replicate (l.length - i) (enc z)).flatten ++ j.toList.drop (l.length * k)).toArray e' (0, 0))] (q.store _) (.inr ⟨s, c, _, by rw [te _ _ _ G], rfl, by rw [te _ _ _ G]; exact Z, q2, ?_, ?_⟩)⟩
   ·have hn : l.length - i = (l.length - i - 1) + 1 := by omega
    simp only [Builtin.clear_]
    rw [hn]
    simp only [aR Q, bY, bK, gi, fN, hz, dL]
    rw [← hn, U, hs]
    simp
   ·have L : j.toList.length = c * k := by simpa using J
    rw [dn, aC, aC, cP, fl, r, L, dw (by omega)]
    omega
   ·rw [te _ _ _ G, nv, bV, cE, Co hk l i G, ← q4, fR, dw (by omega), gL]
    have L : j.toList.length = c * k := by simpa using J
    have e3 : (j.toList.take (i * k) ++ (List.replicate (l.length - i) (enc z)).flatten).length = l.length * k := by rw [aC, cP, r, L, dw (by omega)]; omega
    show List.take (l.length * k) (j.toList.take (i * k) ++ (List.replicate (l.length - i) (enc z)).flatten ++ j.toList.drop (l.length * k)) = _
    rw [eG, du (by rw [e3]; exact aQ _), e3, Nat.sub_self]
    simp
  ·have O : i = l.length := by omega
   subst O
   refine .inl ⟨_, W, p W ?_, M W _ q ?_⟩
   ·simp only [Builtin.clear_, Nat.sub_self]
    cases A' <;> simp [aR Q]
   ·simp only [nv, List.take_length, Nat.sub_self, List.replicate_zero, aT]
    exact .inr ⟨s, c, j, rfl, rfl, Z, q2, J, q4⟩
end
end Go.Proofs.YtjjjihkifgdhgaaGreatDoor
namespace Go.Proofs.YtjjjihkifgdhgaaGreatDoor
open Go.RowKit
variable {dd : Bool}
section
variable {P : Program} {E : Nat → Value} {W : World} {d : Option Nat} {ty : TypeId} {pos : String} {af : Array Edge} {g : Option (Nat × Bool)}
 {F : Nat → Prop} {w : World} {μ : jx} {L : List (Nat × Obj)}
theorem Ge {K : Value → World → Prop} {f : FuncId} {fv : Operand} {ax : Array Operand} {ats : Array TypeId} {args : List Value} {v : Value} (c : je E fv = .func (.func f) #[] #[]) (ha : ax.map (je E) ++ (#[] : Array Value) = args.toArray) (i : (callFunc f args.toArray).run P W = .ok (.value v) W) (h : K v W) : ma P E ⟨d, .call ⟨.value fv, ax, ats⟩, ty, pos, af, g⟩ W K := by
 have b : ax.map (je E) = args.toArray := by simpa using ha
 refine .inl ⟨v, W, ?_, h⟩
 show (do let d ← resolve (je E) ⟨.value fv, ax, ats⟩ ty; invoke d.target d.args : Sem Next).run P W = _
 simp only [resolve, c, Deferred.ofValue, bY, cW, bK, invoke]
 rw [b]
 simpa using i
def uF (s : ByteArray) (c : Int) : Int := Lib.indexByte s.data.toList c.toNat.toUInt8
def nQ (a b : ByteArray) : Int := Lib.compareBytes a.data.toList b.data.toList
def rq (l : List Int) : List UInt8 := l.map fun x => x.toNat.toUInt8
def vC (a b : List Int) : Int := Lib.compareBytes (rq a) (rq b)
theorem EP {f : FuncId} {fn : Func} (g : P.funcs[f]? = some fn) (b : (fn.name == "runtime.NumGoroutine") = false) (d : fn.body.isNone = true) (h : Extern.findNext fn = none) (he : Extern.find fn = some Extern.BytealgIndexByte.indexByte) (s : ByteArray) (c : Int) (w : World) :
  (callFunc f [Value.string s, .int .u8 c].toArray).run P w = .ok (.value (.int .i64 (uF s c))) w := by
 rw [fz g b d h he]
 rw [Lib.run_indexByteString]
 rfl
theorem KM {f : FuncId} {fn : Func} (g : P.funcs[f]? = some fn) (c : (fn.name == "runtime.NumGoroutine") = false) (d : fn.body.isNone = true) (h : Extern.findNext fn = none) (he : Extern.find fn = some Extern.BytealgCompare.compare) (a b : ByteArray) (w : World) :
  (callFunc f [Value.string a, .string b].toArray).run P w = .ok (.value (.int .i64 (nQ a b))) w := by
 rw [fz g c d h he]
 rw [Lib.run_compareString]
 rfl
theorem Bz {v : Value} {l : List Int} (h : Sl (Pl (jN .u8)) 1 (hp W) v l) : (Extern.Bytes.bytesOf v).run P W = .ok ⟨(rq l).toArray⟩ W := by
 obtain ⟨A, c, rfl, q, r, m⟩ := h
 rcases dY l.length with d | d
 ·have : l = [] := ej.1 d
  subst this
  cases A <;> simp [Extern.Bytes.bytesOf, Extern.Bytes.loadBytes, rq] <;> rfl
 ·obtain ⟨b, off, cs, T, fr, rfl, n, o⟩ := m d
  have := Lib.run_loadBytesX (P := P) W l ⟨b, off, none⟩ .empty (fun j x p => by
   obtain ⟨ys, _, i, g⟩ := o j x p
   cases i
   rw [dt, fh W b (off + j) cs T fr n]
   have := g 0 (.int .u8 x) rfl
   simpa using this)
  simp only [Extern.Bytes.bytesOf]
  rw [this]
  congr 1
  apply fB
  show (#[] : Array UInt8) ++ _ = _
  simp [Lib.bytesOf, rq]
theorem Lq {f : FuncId} {fn : Func} (j : P.funcs[f]? = some fn) (c : (fn.name == "runtime.NumGoroutine") = false) (i : fn.body.isNone = true) (l : Extern.findNext fn = none) (he : Extern.find fn = some Extern.BytealgCompare.compare) {d g : Value} {a b : List Int} (h1 : Sl (Pl (jN .u8)) 1 (hp W) d a) (h : Sl (Pl (jN .u8)) 1 (hp W) g b) :
  (callFunc f [d, g].toArray).run P W = .ok (.value (.int .i64 (vC a b))) W := by
 rw [fz j c i l he]
 have : (Extern.BytealgCompare.compare [d, g].toArray).run P W = .ok (.int .i64 (vC a b)) W := by
  change Sem.run P (do pure (goInt (Extern.BytealgCompare.cmp (← Extern.Bytes.bytesOf d) (← Extern.Bytes.bytesOf g)))) W = _
  simp only [bY, Bz h1, Bz h, cW, Result.andThen]
  rw [Lib.cmp_eq]
  rfl
 rw [this]
 rfl
theorem sa {fn : Fn} {b : Array Operand} {cs : List Value} {v : Value} (c : b.map (je E) ++ (#[] : Array Value) = cs.toArray) (h : .func fn #[] cs.toArray = v) : kH P E ⟨d, .makeFunc fn #[] b, ty, pos, af, g⟩ W v W := by
 have : b.map (je E) = cs.toArray := by simpa using c
 exact I1 (by rw [this]; simpa using h)
theorem kw.mono {f : FuncId} {args : List Value} {L0 : List (Nat × Obj)} {K K' : Value → List (Nat × Obj) → World → Prop} (h : kw dd P f args w L0 K) (hk : ∀ v L1 W', K v L1 W' → K' v L1 W') : kw dd P f args w L0 K' :=
 cR h (fun _ _ ⟨v, L1, h1, b, c⟩ => ⟨v, L1, h1, b, hk _ _ _ c⟩)
end
section
variable {α : Type}
def rH (cf : α × α → Option Int) (x y : α) : Bool := match cf (x, y) with
 | some c => decide (c < 0)
 | none => false
structure Cl (cf : α × α → Option Int) (l : List α) : Prop where
 is : ∀ x ∈ l, ∀ y ∈ l, ∃ c, cf (x, y) = some c
 irrefl : ∀ x ∈ l, rH cf x x = false
 trans : ∀ x ∈ l, ∀ y ∈ l, ∀ z ∈ l, rH cf x y = true → rH cf y z = true → rH cf x z = true
 total : ∀ x ∈ l, ∀ y ∈ l, rH cf x y = false → rH cf y x = false → x = y
 short : l.length < 4611686018427387904
def qR (cf : α × α → Option Int) (l : List α) : List α := l.mergeSort fun x y => !rH cf y x
open Classical in
noncomputable def xh (cf : α × α → Option Int) (l : List α) : Option (List α) := if Cl cf l then some (qR cf l) else none
theorem EE {cf : α × α → Option Int} {l r : List α} (h : xh cf l = some r) : Cl cf l ∧ r = qR cf l := by
 unfold xh at h
 split at h
 ·rename_i b; cases h; exact ⟨b, rfl⟩
 ·cases h
theorem LR {cf : α × α → Option Int} {l : List α} (h : Cl cf l) : xh cf l = some (qR cf l) := by
 unfold xh; rw [aW h]
def sn (l : List ByteArray) : List ByteArray := l.mergeSort fun x y => !oJ y x
end
end Go.Proofs.YtjjjihkifgdhgaaGreatDoor
namespace Go.Proofs.YtjjjihkifgdhgaaGreatDoor
open Go.RowKit
variable {dd : Bool}
def uj {κ γ : Type} (Q : Value → γ → List (Nat × Obj) → Prop) : List (κ × Value) → List (κ × γ) → List (Nat × Obj) → Prop
 | [], [], R => R = []
 | p :: b, q :: l, R => p.1 = q.1 ∧ ∃ R1 R2, R = R1 ++ R2 ∧ Q p.2 q.2 R1 ∧ uj Q b l R2
 | _, _, _ => False
def lN {κ γ : Type} (kenc : κ → Value) (Q : Value → γ → List (Nat × Obj) → Prop) (v : Value) (d : List (κ × Value)) (l : List (κ × γ)) (R : List (Nat × Obj)) : Prop :=
 ∃ b c, R = b ++ c ∧ kD kenc (fun x => x) v d b ∧ uj Q d l c
section
variable {κ γ : Type} {Q : Value → γ → List (Nat × Obj) → Prop} {beq : κ → κ → Bool} {kenc : κ → Value}
theorem uj.keys : ∀ {b : List (κ × Value)} {l : List (κ × γ)} {R : List (Nat × Obj)}, uj Q b l R → b.map (·.1) = l.map (·.1)
 | [], [], _, _ => rfl
 | [], _ :: _, _, h => h.elim
 | _ :: _, [], _, h => h.elim
 | p :: b, q :: l, R, h => by
  obtain ⟨h1, R1, R2, _, _, c⟩ := h
  simp [h1, uj.keys c]
theorem uj.find {b : List (κ × Value)} {l : List (κ × γ)} {R : List (Nat × Obj)} (h : uj Q b l R) (k : κ) : b.findIdx? (fun p => beq k p.1) = l.findIdx? (fun p => beq k p.1) := by
 have h1 : (b.map (·.1)).findIdx? (fun x => beq k x) = (l.map (·.1)).findIdx? (fun x => beq k x) := by rw [h.keys]
 rw [fS, fS] at h1
 exact h1
theorem uj.get : ∀ {c : List (κ × Value)} {l : List (κ × γ)} {R : List (Nat × Obj)}, uj Q c l R → ∀ (i : Nat) (k : κ) (x : γ), l[i]? = some (k, x) →
  ∃ v A R1 B, c[i]? = some (k, v) ∧ R = A ++ (R1 ++ B) ∧ Q v x R1 ∧ ∀ k2 v2 x2 R2, Q v2 x2 R2 → uj Q (c.set i (k2, v2)) (l.set i (k2, x2)) (A ++ (R2 ++ B))
 | [], [], _, _, i, k, x, b => by simp at b
 | [], _ :: _, _, h, _, _, _, _ => h.elim
 | _ :: _, [], _, h, _, _, _, _ => h.elim
 | p :: c, q :: l, R, h, 0, k, x, b => by
  obtain ⟨h1, R1, R2, rfl, d, g⟩ := h
  simp at b
  subst b
  refine ⟨p.2, [], R1, R2, by simp only [fN]; exact bA some (Prod.ext h1 rfl), rfl, d, fun k2 v2 x2 R2' j => ⟨rfl, R2', R2, rfl, j, g⟩⟩
 | p :: c, q :: l, R, h, i + 1, k, x, b => by
  obtain ⟨h1, R1, R2, rfl, d, g⟩ := h
  simp at b
  obtain ⟨v, A, R1', B, g1, rfl, g3, g4⟩ := uj.get g i k x b
  exact ⟨v, R1 ++ A, R1', B, by simpa using g1, by simp, g3, fun k2 v2 x2 R2' j => ⟨h1, R1, A ++ (R2' ++ B), by simp, d, g4 k2 v2 x2 R2' j⟩⟩
theorem uj.push : ∀ {c : List (κ × Value)} {l : List (κ × γ)} {R : List (Nat × Obj)}, uj Q c l R → ∀ (k : κ) {v : Value} {x : γ} {R1 : List (Nat × Obj)}, Q v x R1 → uj Q (c ++ [(k, v)]) (l ++ [(k, x)]) (R ++ R1)
 | [], [], _, h, k, v, x, R1, b => by
  have i : _ = [] := h
  subst i
  exact ⟨rfl, R1, [], by simp, b, rfl⟩
 | [], _ :: _, _, h, _, _, _, _, _ => h.elim
 | _ :: _, [], _, h, _, _, _, _, _ => h.elim
 | p :: c, q :: l, R, h, k, v, x, R1, b => by
  obtain ⟨h1, d, g, rfl, j, m⟩ := h
  exact ⟨h1, d, g ++ R1, by simp, j, uj.push m k b⟩
theorem lN.found {s : Value} {d : List (κ × Value)} {l : List (κ × γ)} {R : List (Nat × Obj)} (hk : ∀ {x y : κ}, beq x y = true → x = y) (h : lN kenc Q s d l R) {k : κ} {x : γ} (c : jX beq l k = some x) :
  ∃ v A R1 B, jX beq d k = some v ∧ R = A ++ (R1 ++ B) ∧ Q v x R1 ∧ (∀ x2 R2, Q v x2 R2 → lN kenc Q s d (mS beq l k x2) (A ++ (R2 ++ B))) := by
 obtain ⟨q, z, rfl, t, r⟩ := h
 rw [vp] at c
 cases g : l.findIdx? (fun p => beq k p.1) with
 | none => rw [g] at c; cases c
 | some i =>
  rw [g] at c
  obtain ⟨p, hp, u⟩ := pY g
  simp only [aA, hp, dW, fU] at c
  subst c
  have o := hk u
  obtain ⟨v, A, R1, B, g1, rfl, g3, g4⟩ := r.get i p.1 p.2 hp
  have m : d.findIdx? (fun p => beq k p.1) = some i := by rw [r.find k, g]
  refine ⟨v, q ++ A, R1, B, by rw [vp, m]; simp [g1], by simp, g3, fun x2 R2 w => ⟨q, A ++ (R2 ++ B), by simp, t, ?_⟩⟩
  have b := g4 k v x2 R2 w
  have e : d.set i (k, v) = d := by
   apply ei
   intro j
   rw [eA]
   split
   ·rename_i n
    subst n
    rw [g1, o]
    simp [(aY.1 g1).1]
   ·rfl
  rw [e] at b
  rw [mS, g]
  exact b
theorem lN.Jt {j : Value} {d : List (κ × Value)} {l : List (κ × γ)} {R : List (Nat × Obj)} (h : lN kenc Q j d l R) {k : κ} (b : jX beq l k = none) : jX beq d k = none := by
 obtain ⟨m, n, rfl, o, g⟩ := h
 rw [vp] at b ⊢
 rw [g.find k]
 cases c : l.findIdx? (fun p => beq k p.1) with
 | none => rfl
 | some i =>
  rw [c] at b
  obtain ⟨p, hp, q⟩ := pY c
  simp [hp] at b
def pE (beq : κ → κ → Bool) (b : List (κ × Value)) (k : κ) (z : Value) : Value := (jX beq b k).getD z
variable {P : Program} {W : World} {kt : TypeId} {E : Nat → Value} {d : Option Nat} {ty : TypeId} {pos : String} {af : Array Edge} {g : Option (Nat × Bool)} {F : Nat → Prop} {w : World} {μ : jx} {L : List (Nat × Obj)}
theorem nN {t e : TypeId} {m x : Operand} {i z : Value} {c : List (κ × Value)} {l : List (κ × γ)} {R : List (Nat × Obj)} {k : κ} (K : nX P kt kenc beq) (r : P.underlying t = some (.map kt e)) (u : ∀ w, (zeroValue e).run P w = .ok z w) (hm : je E m = i) (s : je E x = kenc k) (p : lN kenc Q i c l R) (q : ∀ b o, (b, o) ∈ R → W.heap[b]? = some o) : kH P E ⟨d, .lookup t m x false, ty, pos, af, g⟩ W (pE beq c k z) W := by
 obtain ⟨v, y, rfl, j, A⟩ := p
 have n := GL (d := d) (ty := ty) (pos := pos) (af := af) (g := g) K r u hm s (j.at (μ := hp W) (fun b o h => q b o (cA _ h)))
 simpa [pE] using n
variable {κ2 β : Type} {kenc2 : κ2 → Value} {vf : β → Value} {beq2 : κ2 → κ2 → Bool} {kt2 : TypeId}
theorem lN.AU {j : Value} {d : List (κ × Value)} {l : List (κ × List (κ2 × β))} {R : List (Nat × Obj)} (hk : ∀ {x y : κ}, beq x y = true → x = y) (h : lN kenc (kD kenc2 vf) j d l R) (k : κ) {μ : jx} (g : ∀ b o, (b, o) ∈ R → μ b = some o) :
  tN kenc2 vf μ (pE beq d k (.map none)) ((jX beq l k).getD []) := by
 cases c : jX beq l k with
 | none => rw [pE, h.Jt c]; exact .inl ⟨rfl, rfl⟩
 | some x =>
  obtain ⟨v, A, R1, B, g1, rfl, g3, _⟩ := h.found hk c
  rw [pE, g1]
  exact g3.at (fun b o i => g b o (by simp [i]))
theorem lN.isNil {d : Value} {c : List (κ × Value)} {l : List (κ × List (κ2 × β))} {R : List (Nat × Obj)} (hk : ∀ {x y : κ}, beq x y = true → x = y) (h : lN kenc (kD kenc2 vf) d c l R) (k : κ) :
  ∃ r, pE beq c k (.map none) = .map r ∧ r.isNone = (jX beq l k).isNone := by
 cases b : jX beq l k with
 | none => rw [pE, h.Jt b]; exact ⟨none, rfl, rfl⟩
 | some x =>
  obtain ⟨v, A, R1, B, g1, rfl, g3, _⟩ := h.found hk b
  obtain ⟨m, es, clock, rfl, _⟩ := g3
  rw [pE, g1]
  exact ⟨_, rfl, rfl⟩
def DJ {κ κ2 β : Type} (beq : κ → κ → Bool) (beq2 : κ2 → κ2 → Bool) (l : List (κ × List (κ2 × β))) (k : κ) (k2 : κ2) (x : β) : Option (List (κ × List (κ2 × β))) := (jX beq l k).map fun b => mS beq l k (mS beq2 b k2 x)
def DM {κ γ : Type} (beq : κ → κ → Bool) (l : List (κ × γ)) (k : κ) (x : γ) : Option (List (κ × γ)) := if (jX beq l k).isNone then some (mS beq l k x) else none
theorem Kw {p : Value → World → Prop} (X : List (Nat × Obj)) {Y R : List (Nat × Obj)} {t e : TypeId} {m x y : Operand} {r : Value} {o : List (κ × Value)} {l q : List (κ × List (κ2 × β))} {k : κ} {k2 : κ2} {v : β} (hk : ∀ {x y : κ}, beq x y = true → x = y) (K : nX P kt2 kenc2 beq2) (G : P.underlying t = some (.map kt2 e)) (i : ST dd F w W μ (X ++ (R ++ Y))) (h : lN kenc (kD kenc2 vf) r o l R) (hm : je E m = pE beq o k (.map none)) (I : je E x = kenc2 k2) (J : je E y = vf v) (c : DJ beq beq2 l k k2 v = some q) (z : ∀ W' R', ST dd F w W' μ (X ++ (R' ++ Y)) → lN kenc (kD kenc2 vf) r o q R' → p undef W') : ma P E ⟨d, .mapUpdate t m x y, ty, pos, af, g⟩ W p := by
 unfold DJ at c
 cases j : jX beq l k with
 | none => rw [j] at c; cases c
 | some L =>
  rw [j] at c
  cases c
  obtain ⟨u, A, R1, B, g1, rfl, g3, g4⟩ := h.found hk j
  have n : je E m = u := by rw [hm, pE, g1]; rfl
  have b : ST dd F w W μ ((X ++ A) ++ (R1 ++ (B ++ Y))) := by simpa using i
  refine Aa (X ++ A) K G b g3 n I J (fun W' R' h1 s => z W' (A ++ (R' ++ B)) ?_ (g4 _ _ s))
  simpa using h1
theorem J0 {A : Value → World → Prop} (X : List (Nat × Obj)) {Y R R2 : List (Nat × Obj)} {t e : TypeId} {m x y : Operand} {v : Value} {s : List (κ × Value)} {l J : List (κ × γ)} {k : κ} {u : Value} {z : γ} (K : nX P kt kenc beq) (ht : P.underlying t = some (.map kt e)) (r : ST dd F w W μ (X ++ (R ++ (R2 ++ Y)))) (h : lN kenc Q v s l R) (hm : je E m = v) (hx : je E x = kenc k) (hy : je E y = u) (hq : Q u z R2) (c : DM beq l k z = some J) (U : ∀ W' R', ST dd F w W' μ (X ++ (R' ++ Y)) → lN kenc Q v (mS beq s k u) J R' → A undef W') : ma P E ⟨d, .mapUpdate t m x y, ty, pos, af, g⟩ W A := by
 unfold DM at c
 cases n : jX beq l k with
 | some l2 => rw [n] at c; cases c
 | none =>
  rw [n] at c
  simp only [Option.isNone_none, aJ, fU] at c
  subst c
  have Z := h.Jt n
  obtain ⟨M, o, rfl, O, T⟩ := h
  have j : ST dd F w W μ (X ++ (M ++ (o ++ (R2 ++ Y)))) := by simpa using r
  refine Aa X K ht j O hm hx hy (fun W' R' g1 g2 => U W' (R' ++ (o ++ R2)) (by simpa using g1) ⟨R', o ++ R2, rfl, g2, ?_⟩)
  have G : ∀ {L : Type} (q : List (κ × L)) (y : L), jX beq q k = none → mS beq q k y = q ++ [(k, y)] := fun q y b => by
   rw [vp] at b
   rw [mS]
   cases I : q.findIdx? (fun p => beq k p.1) with
   | none => rfl
   | some i =>
    obtain ⟨p, hp, _⟩ := pY I
    rw [I] at b
    simp [hp] at b
  rw [G s u Z, G l z n]
  exact T.push k hq
end
end Go.Proofs.YtjjjihkifgdhgaaGreatDoor
namespace Go.Proofs.YtjjjihkifgdhgaaGreatDoor
open Go.RowKit
variable {dd : Bool}
section
variable {κ γ : Type} {Q : Value → γ → List (Nat × Obj) → Prop} {beq : κ → κ → Bool} {kenc : κ → Value}
theorem pf {b : Type} {l : List (κ × b)} {k : κ} {i : Nat} (h : l.findIdx? (fun p => beq k p.1) = some i) (x : b) : mS beq l k x = l.set i (k, x) := by rw [mS, h]
theorem sQ {b : Type} {l : List (κ × b)} {k : κ} (h : l.findIdx? (fun p => beq k p.1) = none) (x : b) : mS beq l k x = l ++ [(k, x)] := by rw [mS, h]
theorem B6 {b : Type} {l : List (κ × b)} {k : κ} (h : l.findIdx? (fun p => beq k p.1) = none) : jX beq l k = none := by rw [vp, h]; rfl
theorem AT {b : Type} {l : List (κ × b)} {k : κ} {i : Nat} {p : κ × b} (h : l.findIdx? (fun p => beq k p.1) = some i) (hp : l[i]? = some p) : jX beq l k = some p.2 := by rw [vp, h]; simp [hp]
def Jb (beq : κ → κ → Bool) (kenc : κ → Value) (Q : Value → γ → List (Nat × Obj) → Prop) (d : Value) (c : List (κ × Value)) (l : List (κ × γ)) (k : κ) (R : List (Nat × Obj)) : Prop :=
 ∃ b A B, R = b ++ (A ++ B) ∧ kD kenc (fun x => x) d c b ∧ ∀ v x R1, Q v x R1 → uj Q (mS beq c k v) (mS beq l k x) (A ++ (R1 ++ B))
theorem lN.open (hk : ∀ {x y : κ}, beq x y = true → x = y) {r z : Value} {x0 : γ} (m : Q z x0 []) {n : List (κ × Value)} {l : List (κ × γ)} {R : List (Nat × Obj)} (h : lN kenc Q r n l R) (k : κ) :
  ∃ R' R1, R.Perm (R' ++ R1) ∧ Q (pE beq n k z) ((jX beq l k).getD x0) R1 ∧ Jb beq kenc Q r n l k R' := by
 obtain ⟨d, o, rfl, q, g⟩ := h
 have c := g.find (beq := beq) k
 cases b : l.findIdx? (fun p => beq k p.1) with
 | none =>
  rw [b] at c
  refine ⟨d ++ o, [], by simp, ?_, d, o, [], by simp, q, fun v x R1 j => ?_⟩
  ·rw [pE, B6 b, B6 c]; exact m
  ·rw [sQ b, sQ c]; simpa using g.push k j
 | some i =>
  rw [b] at c
  obtain ⟨p, hp, s⟩ := pY b
  have t := hk s
  obtain ⟨v, A, R1, B, g1, rfl, g3, g4⟩ := g.get i p.1 p.2 hp
  refine ⟨d ++ (A ++ B), R1, ?_, ?_, d, A, B, rfl, q, fun v2 x2 R2 j => ?_⟩
  ·rw [aI, aI]
   refine bR _ (bR _ dX)
  ·rw [pE, AT b hp, AT c g1]; exact g3
  ·rw [pf b, pf c]; exact g4 k v2 x2 R2 j
variable {P : Program} {W : World} {kt : TypeId} {E : Nat → Value} {d : Option Nat} {ty : TypeId} {pos : String} {af : Array Edge} {g : Option (Nat × Bool)} {F : Nat → Prop} {w : World} {μ : jx} {L : List (Nat × Obj)}
theorem Og {j : Value → World → Prop} (X : List (Nat × Obj)) {Y R R1 : List (Nat × Obj)} {t e : TypeId} {m x y : Operand} {i : Value} {n : List (κ × Value)} {l : List (κ × γ)} {k : κ} {u : Value} {z : γ} (K : nX P kt kenc beq) (v : P.underlying t = some (.map kt e)) (c : ST dd F w W μ (X ++ (R ++ (R1 ++ Y)))) (h : Jb beq kenc Q i n l k R) (hm : je E m = i) (G : je E x = kenc k) (I : je E y = u) (s : Q u z R1) (r : ∀ W' R', ST dd F w W' μ (X ++ (R' ++ Y)) → lN kenc Q i (mS beq n k u) (mS beq l k z) R' → j undef W') : ma P E ⟨d, .mapUpdate t m x y, ty, pos, af, g⟩ W j := by
 obtain ⟨o, A, B, rfl, p, q⟩ := h
 have b : ST dd F w W μ (X ++ (o ++ (A ++ (B ++ (R1 ++ Y))))) := by simpa using c
 refine Aa X K v b p hm G I (fun W' R' g1 g2 => r W' (R' ++ (A ++ (R1 ++ B))) ?_ ⟨R', A ++ (R1 ++ B), rfl, g2, q u z R1 s⟩)
 refine g1.perm ?_
 simp only [aI]
 refine bR _ (bR _ (bR _ ?_))
 rw [← aI, ← aI]
 exact fV _ dX
def Gk (beq : κ → κ → Bool) (kenc : κ → Value) (Q : Value → γ → List (Nat × Obj) → Prop) (c : Value) (l : List (κ × γ)) (k : κ) (d : Nat) (R : List (Nat × Obj)) : Prop :=
 ∃ m es clock b A B i e, c = .map (some m) ∧ R = (m, .map es clock) :: (A ++ B) ∧ sd kenc (fun x => x) b es clock ∧ es[i]? = some e ∧ e.born = d ∧ b.findIdx? (fun p => beq k p.1) = some i ∧
  ∀ v x R1, Q v x R1 → uj Q (mS beq b k v) (mS beq l k x) (A ++ (R1 ++ B))
theorem FB {g : Type} (hk : ∀ x : κ, beq x x = true) (d : List (κ × g)) (k : κ) (a b : g) : mS beq (mS beq d k a) k b = mS beq d k b := by
 cases c : d.findIdx? (fun p => beq k p.1) with
 | none =>
  have h1 : (d ++ [(k, a)]).findIdx? (fun p => beq k p.1) = some d.length := by
   rw [gr, c]
   simp [ew, hk]
  rw [sQ c, sQ c, pf h1]
  simp
 | some i =>
  obtain ⟨p, hp, n⟩ := pY c
  have h1 : (d.set i (k, a)).findIdx? (fun p => beq k p.1) = some i := by
   rw [dS] at c ⊢
   obtain ⟨h1, m, h⟩ := c
   refine ⟨by simpa using h1, by simp [hk], fun j l => ?_⟩
   rw [List.getElem_set_ne (by omega)]
   exact h j l
  rw [pf c, pf c, pf h1]
  simp
end
end Go.Proofs.YtjjjihkifgdhgaaGreatDoor
namespace Go.Proofs.YtjjjihkifgdhgaaGreatDoor
open Go.RowKit
variable {dd : Bool}
section
variable {κ γ : Type} {Q : Value → γ → List (Nat × Obj) → Prop} {beq : κ → κ → Bool} {kenc : κ → Value}
variable {P : Program} {W : World} {kt : TypeId} {E : Nat → Value} {d : Option Nat} {ty : TypeId} {pos : String} {af : Array Edge} {g : Option (Nat × Bool)} {F : Nat → Prop} {w : World} {μ : jx} {L : List (Nat × Obj)}
theorem Ce {es : Array MapEntry} {i : Nat} {f c : MapEntry → MapEntry} (h : ∀ e, es[i]? = some e → f e = c e) : es.modify i f = es.modify i c := by
 apply Array.ext_getElem?
 intro j
 rw [dA, dA]
 split
 ·rename_i b
  subst b
  cases he : es[i]? with
  | none => rfl
  | some e => simp [h e he]
 ·rfl
theorem sd.val {c : List (κ × Value)} {es : Array MapEntry} {clock : Nat} (h : sd kenc (fun x => x) c es clock) {i : Nat} {e : MapEntry} (he : es[i]? = some e) : ∃ p, c[i]? = some p ∧ e.key = kenc p.1 ∧ e.val = p.2 := by
 have b := bA (fun q => q[i]?) h.CM
 simp only [ek, dB, he, dW] at b
 cases hp : c[i]? with
 | none => rw [hp] at b; cases b
 | some p =>
  rw [hp] at b
  simp only [dW, fU, Prod.mk.injEq] at b
  exact ⟨p, rfl, b.1, b.2⟩
theorem IM {Kk : Value → World → Prop} (X : List (Nat × Obj)) {Y R : List (Nat × Obj)} {t e : TypeId} {m x : Operand} {mv z : Value} {x0 : γ} {lv : List (κ × Value)} {l : List (κ × γ)} {k : κ} (hk : ∀ {x y : κ}, beq x y = true ↔ x = y) (K : nX P kt kenc beq) (ht : P.underlying t = some (.map kt e)) (hz : ∀ w, (zeroValue e).run P w = .ok z w) (ad : Q z x0 []) (T : ST dd F w W μ (X ++ (R ++ Y))) (h : lN kenc Q mv lv l R) (hm : je E m = mv) (hx : je E x = kenc k) (hK : ∀ W' v st R' R1, ST dd F w W' μ (X ++ (R' ++ (R1 ++ Y))) → Q v ((jX beq l k).getD x0) R1 → Gk beq kenc Q mv l k st R' → Kk (.tuple #[v, .int .i64 (st : Nat)]) W') : ma P E ⟨d, .mapEntry t m x, ty, pos, af, g⟩ W Kk := by
 obtain ⟨Rm, Rv, rfl, ⟨o, es, clock, rfl, rfl, r⟩, O⟩ := h
 have hb : W.heap[o]? = some (.map es clock) := (T.box o (.map es clock) (by simp)).1
 have h5 : (getObj o : Sem Obj).run P W = .ok (.map es clock) W := by simp [getObj, Sem.run, hb]
 have L := K.find k _ _ r.keys W
 rw [r.get k] at L
 have G := O.find (beq := beq) k
 have u : ∀ W' v, (Instr.mapEntry t (.map (some o)) (kenc k)).run P W = .ok v W' → (execOp (je E) ⟨d, .mapEntry t m x, ty, pos, af, g⟩).run P W = .ok (.value v) W' := by
  intro W' v hr
  show (do pure (.value (← Instr.mapEntry t (je E m) (je E x))) : Sem Next).run P W = _
  rw [hm, hx]
  simp [hr]
 have s : ST dd F w W μ (X ++ (o, .map es clock) :: (Rv ++ Y)) := by simpa using T
 cases c : lv.findIdx? (fun p => beq k p.1) with
 | none =>
  rw [c] at L G
  have b := r.put (beq := beq) k z
  rw [c] at b
  refine .inl ⟨_, ChangeMaps.setBlock W o (.map (es.push { key := kenc k, val := z, born := clock }) (clock + 1)), u _ (.tuple #[z, .int .i64 (clock : Nat)]) ?_, hK _ z clock ((o, .map (es.push { key := kenc k, val := z, born := clock }) (clock + 1)) :: (Rv ++ [])) [] ?_ ?_ ?_⟩
  ·simp [Instr.mapEntry, aR ht, h5, K.check, L, vU hb, hz _, goInt]
  ·have := s.setBlock (.map (es.push { key := kenc k, val := z, born := clock }) (clock + 1))
   simpa using this
  ·rw [B6 G.symm]; exact ad
  ·refine ⟨o, _, _, lv ++ [(k, z)], Rv, [], es.size, { key := kenc k, val := z, born := clock }, rfl, rfl, b, by simp, rfl, ?_, fun v x R1 hq => ?_⟩
   ·rw [gr, c]
    have aa := r.length
    simp [ew, hk, aa]
   ·rw [← sQ c, FB (fun x => hk.2 rfl), sQ c, sQ G.symm]
    simpa using O.push k hq
 | some i =>
  rw [c] at L G
  obtain ⟨p, hp, ab⟩ := pY c
  obtain ⟨q, a8, U⟩ := pY G.symm
  have ag := hk.1 U
  obtain ⟨v, A, R1, B, g1, rfl, g3, g4⟩ := O.get i q.1 q.2 a8
  have a7 : p.2 = v := by rw [g1] at hp; cases hp; rfl
  have aa := r.length
  have ae : i < lv.length := (aY.1 hp).1
  obtain ⟨M, n⟩ : ∃ M, es[i]? = some M := ⟨es[i], Array.getElem?_eq_getElem (by omega)⟩
  obtain ⟨p', a6, I, J⟩ := r.val n
  rw [hp] at a6
  cases a6
  simp only [aA, hp, dW] at L
  have b := r.put (beq := beq) k v
  rw [c] at b
  have Z : ((es[i]?).map (·.key)).getD (kenc k) = kenc k := by
   rw [n]
   simp only [dW, gk, I]
   exact K.eq k p.1 ab
  have a1 : es.modify i (fun e => { e with key := kenc k }) = es.modify i (fun e => { e with key := kenc k, val := v }) := Ce fun e he => by
   rw [n] at he; cases he
   rw [← a7, ← J]
  refine .inl ⟨_, ChangeMaps.setBlock W o (.map (es.modify i fun e => { e with key := kenc k, val := v }) clock), u _ (.tuple #[v, .int .i64 (M.born : Nat)]) ?_, hK _ v M.born ((o, .map (es.modify i fun e => { e with key := kenc k, val := v }) clock) :: (A ++ B)) R1 ?_ ?_ ?_⟩
  ·simp only [Instr.mapEntry, bY, aR ht, h5, K.check, L, bK, Z, Instr.keyThatStays, K.bits, aJ, cW]
   rw [vU hb, a1]
   simp [n, goInt, a7]
  ·have := s.setBlock (.map (es.modify i fun e => { e with key := kenc k, val := v }) clock)
   refine this.perm ?_
   simp only [aI, bJ]
   refine bR _ (List.Perm.cons _ (bR _ ?_))
   rw [← aI, ← aI]
   exact fV _ dX
  ·rw [AT G.symm a8]; exact g3
  ·refine ⟨o, _, _, lv.set i (k, v), A, B, i, { M with key := kenc k, val := v }, rfl, rfl, b, ?_, rfl, ?_, fun v2 x2 R2 hq => ?_⟩
   ·rw [dA, aW rfl, n]; rfl
   ·rw [dS] at c ⊢
    obtain ⟨h1, r, O⟩ := c
    refine ⟨by simpa using h1, by simp [hk], fun j hj => ?_⟩
    rw [List.getElem_set_ne (by omega)]
    exact O j hj
   ·rw [← pf c, FB (fun x => hk.2 rfl), pf c, pf G.symm]
    exact g4 k v2 x2 R2 hq
theorem JK {es : Array MapEntry} (h : es.toList.Pairwise (fun a b => a.born < b.born)) {i : Nat} {e : MapEntry} (he : es[i]? = some e) : es.findIdx? (fun a => (a.born : Int) == (e.born : Int)) = some i := by
 rw [Array.findIdx?_eq_some_iff_getElem]
 obtain ⟨d, c⟩ := dl.1 he
 refine ⟨d, by rw [c]; simp, fun j g => ?_⟩
 have := List.pairwise_iff_getElem.1 h j i (by simpa using Nat.lt_trans g d) (by simpa using d) g
 simp only [Array.getElem_toList] at this
 rw [c] at this
 simp
 omega
theorem Hs {Kk : Value → World → Prop} (X : List (Nat × Obj)) {Y R R1 : List (Nat × Obj)} {t e : TypeId} {m s y : Operand} {Z u : Value} {z : γ} {l : List (κ × γ)} {k : κ} {st : Nat} (hk : ∀ {x y : κ}, beq x y = true ↔ x = y) (K : nX P kt kenc beq) (q : ST dd F w W μ (X ++ (R ++ (R1 ++ Y)))) (h : Gk beq kenc Q Z l k st R) (hm : je E m = Z) (hs : je E s = .int .i64 (st : Nat)) (hy : je E y = u) (hq : Q u z R1) (hK : ∀ W' U R', ST dd F w W' μ (X ++ (R' ++ Y)) → lN kenc Q Z U (mS beq l k z) R' → Kk undef W') : ma P E ⟨d, .entryStore t m s y, ty, pos, af, g⟩ W Kk := by
 obtain ⟨c, es, clock, lv, A, B, i, en, rfl, rfl, L, n, j, O, h3⟩ := h
 have hb : W.heap[c]? = some (.map es clock) := (q.box c (.map es clock) (by simp)).1
 have h5 : (getObj c : Sem Obj).run P W = .ok (.map es clock) W := by simp [getObj, Sem.run, hb]
 obtain ⟨p, hp, M⟩ := pY O
 obtain ⟨p', J, o, T⟩ := L.val n
 rw [hp] at J
 cases J
 have b := L.put (beq := beq) k u
 rw [O] at b
 have I : es.modify i (fun e => { e with val := u }) = es.modify i (fun e => { e with key := kenc k, val := u }) := Ce fun e he => by
  rw [n] at he; cases he
  have v : en.key = kenc k := by rw [o]; exact K.eq k p.1 M
  rw [← v]
 have G := JK L.born n
 rw [j] at G
 have r : ST dd F w W μ (X ++ (c, .map es clock) :: (A ++ (B ++ (R1 ++ Y)))) := by simpa using q
 refine .inr (.inl ⟨ChangeMaps.setBlock W c (.map (es.modify i fun e => { e with key := kenc k, val := u }) clock), ?_, hK _ (mS beq lv k u) ((c, .map (es.modify i fun e => { e with key := kenc k, val := u }) clock) :: (A ++ (R1 ++ B))) ?_ ⟨[(c, .map (es.modify i fun e => { e with key := kenc k, val := u }) clock)], A ++ (R1 ++ B), rfl, ⟨c, _, _, rfl, rfl, ?_⟩, h3 u z R1 hq⟩⟩)
 ·show (do Instr.entryStore t (je E m) (je E s) (je E y); pure .skip : Sem Next).run P W = _
  rw [hm, hs, hy]
  simp only [Instr.entryStore, bY, h5, bK, asInt, asIntOf, cW, G]
  rw [vU hb, I]
  rfl
 ·have := r.setBlock (.map (es.modify i fun e => { e with key := kenc k, val := u }) clock)
  refine this.perm ?_
  simp only [aI, bJ]
  refine bR _ (List.Perm.cons _ (bR _ ?_))
  rw [← aI, ← aI]
  exact fV _ dX
 ·rw [pf O]; exact b
end
end Go.Proofs.YtjjjihkifgdhgaaGreatDoor
namespace Go.Proofs.YtjjjihkifgdhgaaGreatDoor
open Go.RowKit
variable {dd : Bool}
section
variable {κ γ : Type} {Q : Value → γ → List (Nat × Obj) → Prop} {beq : κ → κ → Bool} {kenc : κ → Value}
def kE (kenc : κ → Value) (Q : Value → γ → List (Nat × Obj) → Prop) (v : Value) (l : List (κ × γ)) (R : List (Nat × Obj)) : Prop := ∃ b, lN kenc Q v b l R
def oV (kenc : κ → Value) (Q : Value → γ → List (Nat × Obj) → Prop) (μ : jx) (v : Value) (l : List (κ × γ)) : Prop := ∃ c R, lN kenc Q v c l R ∧ ∀ b o, (b, o) ∈ R → μ b = some o
theorem kE.at {v : Value} {l : List (κ × γ)} {R : List (Nat × Obj)} {μ : jx} (h : kE kenc Q v l R) (c : ∀ b o, (b, o) ∈ R → μ b = some o) : oV kenc Q μ v l := let ⟨d, h⟩ := h; ⟨d, R, h, c⟩
theorem oV.mono {v : Value} {l : List (κ × γ)} {μ μ' : jx} (h : oV kenc Q μ v l) (g : jC μ μ') : oV kenc Q μ' v l := let ⟨i, R, h, c⟩ := h; ⟨i, R, h, fun b o d => g _ _ (c b o d)⟩
theorem lN.form {v : Value} {b : List (κ × Value)} {l : List (κ × γ)} {R : List (Nat × Obj)} (h : lN kenc Q v b l R) : ∃ m, v = .map (some m) := let ⟨_, _, _, h, _⟩ := h; h.form
theorem lN.e {v : Value} {b : List (κ × Value)} {l : List (κ × γ)} {R : List (Nat × Obj)} (h : lN kenc Q v b l R) : kE kenc Q v l R := ⟨b, h⟩
theorem kE.form {v : Value} {l : List (κ × γ)} {R : List (Nat × Obj)} (h : kE kenc Q v l R) : ∃ m, v = .map (some m) := let ⟨_, h⟩ := h; h.form
theorem kE.new {v : Value} {R : List (Nat × Obj)} (h : kD (β := Value) kenc (fun x => x) v [] R) : kE kenc Q v [] R := ⟨[], R, [], (aT R).symm, h, rfl⟩
theorem lN.rowAt {α : Type} {e : TypeId} {enc : α → List Value} {n : Nat} {i : Value} {d : List (κ × Value)} {l : List (κ × List α)} {R : List (Nat × Obj)} (hk : ∀ {x y : κ}, beq x y = true → x = y) (h : lN kenc (jw e enc n) i d l R) (k : κ) :
  ∃ R1, jw e enc n (pE beq d k (.slice none 0 0)) ((jX beq l k).getD []) R1 ∧ ∀ b o, (b, o) ∈ R1 → (b, o) ∈ R := by
 cases c : jX beq l k with
 | none => refine ⟨[], ?_, fun b o h => by cases h⟩; rw [pE, h.Jt c]; exact .inl ⟨rfl, rfl, rfl⟩
 | some x =>
  obtain ⟨v, A, R1, B, g1, rfl, g3, _⟩ := h.found hk c
  refine ⟨R1, ?_, fun b o g => by simp [g]⟩
  rw [pE, g1]; exact g3
theorem jw.By {α : Type} {e : TypeId} {enc : α → List Value} {k : Nat} {v : Value} {l : List α} {R : List (Nat × Obj)} (h : jw e enc k v l R) (hk : ∀ x, (enc x).length = k) : Sl (Pl enc) k (zK R) v l := by
 refine h.sl hk (fun b o c => ?_)
 rcases h with ⟨rfl, rfl, rfl⟩ | ⟨g, cap, d, rfl, rfl, _⟩
 ·cases c
 ·simp at c; obtain ⟨rfl, rfl⟩ := c; simp [zK]
end
theorem mI.hp (W : World) : mI (hp W) [] W := ⟨fun _ _ h => h, fun _ _ h => by cases h⟩
section
variable {P : Program} {W : World} {E : Nat → Value} {d : Option Nat} {ty : TypeId} {pos : String} {af : Array Edge} {g : Option (Nat × Bool)} {F : Nat → Prop} {w : World} {μ : jx} {L : List (Nat × Obj)}
theorem EF {t k e : TypeId} (dd : Nat) (b : P.underlying t = some (.map k e)) (a : Option Nat) (W : World) : (Op.equalIn (dd + 1) t (.map a) (.map none)).run P W = .ok a.isNone W := by
 cases a <;> simp [Op.equalIn, aR b]
theorem Ji {tx tv k e : TypeId} {x y : Operand} {r : Option Nat} {b : Bool} (i : P.underlying tx = some (.map k e)) (j : je E x = .map r) (l : je E y = .map none) (h : r.isNone = b) :
  kH P E ⟨d, .binOp .eql tx x y tv, ty, pos, af, g⟩ W (.bool b) W := by
 subst h
 show (do let r ← (do eqGuard .eql tx x y (je E x) (je E y); binOp .eql tx (je E x) (je E y)); pure (.value r) : Sem Next).run P W = _
 rw [j, l]
 have c := EF 9999 i r W
 simp [eqGuard, binOp, Op.equal, show Op.maxDepth = 9999 + 1 from rfl, c]
theorem HV {κ κ2 β : Type} {kenc : κ → Value} {kenc2 : κ2 → Value} {vf : β → Value} {beq : κ → κ → Bool} {tx tv kt e : TypeId} {x y : Operand} {n : Value} {b : List (κ × Value)} {l : List (κ × List (κ2 × β))} {R : List (Nat × Obj)} {k : κ} (hk : ∀ {x y : κ}, beq x y = true → x = y) (i : P.underlying tx = some (.map kt e)) (h : lN kenc (kD kenc2 vf) n b l R) (j : je E x = pE beq b k (.map none)) (m : je E y = .map none) :
  kH P E ⟨d, .binOp .eql tx x y tv, ty, pos, af, g⟩ W (.bool (jX beq l k).isNone) W := by
 obtain ⟨r, h1, c⟩ := h.isNil hk k
 exact Ji i (j.trans h1) m c
theorem AS {κ γ : Type} {c : Value → World → Prop} {t : TypeId} (kenc : κ → Value) (Q : Value → γ → List (Nat × Obj) → Prop) (b : ST dd F w W μ L) (i : ∀ W' v R, ST dd F w W' μ (R ++ L) → kE kenc Q v [] R → c v W') : ma P E ⟨d, .makeMap t none, ty, pos, af, g⟩ W c :=
 FG kenc (fun x : Value => x) b (fun W' v R h1 h => i W' v R h1 (kE.new h))
end
def oI {α : Type} (e : TypeId) (enc : α → List Value) (k : Nat) (v : Value) (l : List α) (R : List (Nat × Obj)) : Prop :=
 (v = .slice none 0 0 ∧ l = [] ∧ R = []) ∨
 ∃ g off cap b, v = .slice (some ⟨g, off, none⟩) l.length cap ∧ R = [(g, .cells b e (0, 0))] ∧ l.length ≤ cap ∧ cap ≤ maxLen ∧ off + cap * k ≤ b.size ∧ (b.toList.drop off).take (l.length * k) = (l.map enc).flatten
section
variable {α : Type} {e : TypeId} {enc : α → List Value} {k : Nat} {v : Value} {l : List α} {R : List (Nat × Obj)}
theorem oI.nil (e : TypeId) (enc : α → List Value) (k : Nat) : oI e enc k (.slice none 0 0) [] [] := .inl ⟨rfl, rfl, rfl⟩
theorem jw.Pn (h : jw e enc k v l R) : oI e enc k v l R := by
 rcases h with h | ⟨g, cap, b, h1, c, d, i, m, j⟩
 ·exact .inl h
 ·exact .inr ⟨g, 0, cap, b, h1, c, d, i, by omega, by simpa using j⟩
theorem oI.len (h : oI e enc k v l R) : l.length ≤ 9223372036854775807 := by
 rcases h with ⟨rfl, rfl, rfl⟩ | ⟨g, off, cap, b, rfl, rfl, h1, c, _⟩
 ·simp
 ·unfold maxLen at c; omega
theorem oI.form (h : oI e enc k v l R) : ∃ A c, v = .slice A l.length c := by
 rcases h with ⟨rfl, rfl, rfl⟩ | ⟨g, off, cap, b, rfl, rfl, _⟩
 ·exact ⟨_, _, rfl⟩
 ·exact ⟨_, _, rfl⟩
theorem oI.By (h : oI e enc k v l R) (hk : ∀ x, (enc x).length = k) : Sl (Pl enc) k (zK R) v l := by
 rcases h with ⟨rfl, rfl, rfl⟩ | ⟨g, off, cap, b, rfl, rfl, h1, d, p, m⟩
 ·exact Sl.nil _ _ _
 ·refine ⟨_, cap, rfl, h1, d, fun _ => ⟨g, off, b, e, (0, 0), rfl, by simp [zK], fun i x n => ⟨enc x, hk x, rfl, fun j y o => ?_⟩⟩⟩
  have := vu hk l i x n j y o
  rw [← m] at this
  have c : i * k + j < l.length * k := by
   have := (aY.1 this).1
   simp at this; omega
  rw [cZ c, dE] at this
  simpa [dT] using this
variable {P : Program} {W : World} {E : Nat → Value} {d : Option Nat} {ty : TypeId} {pos : String} {af : Array Edge} {g : Option (Nat × Bool)} {F : Nat → Prop} {w : World} {μ : jx} {L : List (Nat × Obj)}
theorem LU {x : Operand} {t b : TypeId} (i : P.underlying t = some (.slice b)) (j : je E x = v) (h : oI e enc k v l R) : kH P E ⟨d, .call ⟨.builtin .len, #[x], #[t]⟩, ty, pos, af, g⟩ W (.int .i64 l.length) W := by
 obtain ⟨A, c, rfl⟩ := h.form
 exact xa i j
theorem Jn {t p : TypeId} {x n : Operand} {M : IntKind} {i : Int} (y : P.underlying t = some (.slice p)) (he : ∀ w, (sizeOf p).run P w = .ok k w) (z : je E x = v) (r : je E n = .int M i) (hk : ∀ x, (enc x).length = k) (h : oI e enc k v l R) (A : 0 ≤ i) (s : i ≤ l.length) :
  ∃ u, oI e enc k u (l.drop i.toNat) R ∧ ∀ W, kH P E ⟨d, .slice t x (some n) none none, ty, pos, af, g⟩ W u W := by
 rcases h with ⟨rfl, rfl, rfl⟩ | ⟨m, off, cap, c, rfl, rfl, h1, O, Q, G⟩
 ·have : i = 0 := by simp at s; omega
  subst this
  refine ⟨.slice none 0 0, by simpa using oI.nil e enc k, fun W => ?_⟩
  show (do pure (.value (← Instr.sliceAt t (je E x) (some (je E n)) none none)) : Sem Next).run P W = _
  rw [z, r]
  simp [Instr.sliceAt, Instr.slice, Instr.sliceBounds, Instr.sliceBound, asIntOf, aR y, he W]
 ·refine ⟨.slice (some (if cap = i.toNat then ⟨m, off, none⟩ else (Addr.add ⟨m, off, none⟩ (i.toNat * k)))) (l.length - i.toNat) (cap - i.toNat), .inr ?_, fun W => ?_⟩
  ·have b : (l.drop i.toNat).length = l.length - i.toNat := by simp
   have j : (l.map enc).flatten.drop (i.toNat * k) = ((l.drop i.toNat).map enc).flatten := by
    have I : l = l.take i.toNat ++ l.drop i.toNat := (gj _ _).symm
    have J : ((l.take i.toNat).map enc).flatten.length = i.toNat * k := by rw [oy hk, cP, dw (by omega)]
    conv => lhs; rw [I, bV, cE]
    rw [← J, List.drop_left]
   by_cases q : cap = i.toNat
   ·rw [aW q]
    have o : l.drop i.toNat = [] := List.drop_eq_nil_of_le (by omega)
    refine ⟨m, off, cap - i.toNat, c, by rw [o]; simp; omega, rfl, by rw [o]; simp, by omega, by have : (cap - i.toNat) * k ≤ cap * k := cI _ (by omega); omega, by rw [o]; simp⟩
   ·rw [aU q]
    refine ⟨m, off + i.toNat * k, cap - i.toNat, c, by rw [b, dt], rfl, by rw [b]; omega, by omega, ?_, ?_⟩
    ·have : i.toNat * k + (cap - i.toNat) * k = cap * k := by rw [← cH]; congr 1; omega
     omega
    ·rw [b, ← j, ← G, gK, List.drop_drop, Nat.sub_mul]
  ·show (do pure (.value (← Instr.sliceAt t (je E x) (some (je E n)) none none)) : Sem Next).run P W = _
   rw [z, r]
   have L : 0 ≤ i ∧ i ≤ (l.length : Int) := ⟨A, s⟩
   simp [Instr.sliceAt, Instr.slice, Instr.sliceBounds, Instr.sliceBound, asIntOf, aR y, he W, L]
   split <;> rfl
theorem HI {K : Value → World → Prop} {t : TypeId} {a6 : Nat} {z vs : Value} {m r : List α} (X : List (Nat × Obj)) {Y : List (Nat × Obj)} {x y : Operand} {i : TypeInfo} (a7 : ST dd F w W μ (X ++ (R ++ Y))) (hk : ∀ x, (enc x).length = k) (ak : 0 < k) (h1 : ∀ x, ∀ u ∈ enc x, u.oneCell' = true) (ht : P.underlying t = some (.slice e)) (hi : P.info? e = some i) (hz : i.zero = some z) (ab : z.cells.size = k) (a1 : i.size = k) (a8 : i.bytes = a6) (hx : je E x = v) (hy : je E y = vs) (hR : oI e enc k v l R) (hs : Sl (Pl enc) k (hp W) vs m) (hb : kN a6 l m = some r) (h : ∀ W' v' R', ST dd F w W' μ (X ++ (R' ++ Y)) → oI e enc k v' r R' → K v' W') : ma P E ⟨d, .call ⟨.builtin .append, #[x, y], #[t, t]⟩, ty, pos, af, g⟩ W K := by
 rcases hR with ⟨rfl, rfl, rfl⟩ | ⟨s, off, cap, p, rfl, rfl, h2, h3, h4, h5⟩
 ·exact Hg X a7 hk ak h1 ht hi hz ab a1 a8 hx hy (jw.nil e enc k) hs hb (fun W' v' R' a b => h W' v' R' a b.Pn)
 unfold kN at hb
 split at hb
 case isFalse => cases hb
 rename_i Z
 cases hb
 have U : ∀ (V : Value) (W' : World), (Builtin.append_ #[t, t] ty #[.slice (some ⟨s, off, none⟩) l.length cap, vs]).run P W = .ok V W' → (execOp (je E) ⟨d, .call ⟨.builtin .append, #[x, y], #[t, t]⟩, ty, pos, af, g⟩).run P W = .ok (.value V) W' := by
  intro V W' hV
  show (do let d ← resolve (je E) ⟨.builtin .append, #[x, y], #[t, t]⟩ ty; invoke d.target d.args : Sem Next).run P W = _
  simp [resolve, invoke, builtin, hx, hy, hV]
 obtain ⟨A, c, rfl, ao, ap, ah⟩ := hs
 have L : ST dd F w W μ (X ++ (s, .cells p e (0, 0)) :: Y) := by simpa using a7
 have hg : W.heap[s]? = some (.cells p e (0, 0)) := (L.box s _ (by simp)).1
 have J := oy hk l
 have Q : ∀ u ∈ (m.map enc).flatten, u.oneCell' = true := by
  intro u hu
  obtain ⟨ys, an, al⟩ := iz.1 hu
  obtain ⟨x, _, rfl⟩ := bG.1 an
  exact h1 x u al
 have I : Src P i.size t (.slice A m.length c) m.length ((m.map enc).flatten) W := by
  rw [a1]
  rcases dY m.length with h0 | h0
  ·have hm : m = [] := aN h0
   subst hm
   cases A with
   | none => exact Src.ofNil W ht c
   | some ad => exact Src.ofSlice W ht ad 0 c [] (by simp) (fun j u hu => by simp at hu) (fun u hu => by cases hu)
  ·obtain ⟨b, o, cs, T, fr, rfl, h6, h7⟩ := ah h0
   refine Src.ofSlice W ht _ _ c _ (oy hk m) (fun j u hu => ?_) Q
   obtain ⟨i, x, q, h8, h9, rfl⟩ := DG hk m j u hu
   obtain ⟨ys, _, ae, ag⟩ := h7 i x h8
   cases ae
   rw [dt, fh W b (o + (i * k + q)) cs T fr h6, ← dT]
   exact ag q u h9
 have n := oy hk m
 have O : ((l ++ m).map enc).flatten = (l.map enc).flatten ++ (m.map enc).flatten := by simp
 generalize (m.map enc).flatten = fm at I Q n O
 subst a1
 have aq : l.length * i.size ≤ cap * i.size := cI _ h2
 by_cases G : l.length + m.length ≤ cap
 ·have ar : l.length * i.size + m.length * i.size ≤ cap * i.size := by rw [← cH]; exact cI _ G
  have aa := gW (P := P) s (off + l.length * i.size) e fm 0 p W hg (by rw [n]; omega) Q
  have M : (Builtin.append_ #[t, t] ty #[.slice (some ⟨s, off, none⟩) l.length cap, .slice A m.length c]).run P W = .ok (.slice (some ⟨s, off, none⟩) (l.length + m.length) cap) (W.setRow s (p.toList.take (off + l.length * i.size) ++ fm ++ p.toList.drop (off + l.length * i.size + fm.length)).toArray) := by
   simp [Builtin.append_, aR ht, sizeOf, typeInfo, hi, I.len, G, I.cells, dt]
   simp only [fT] at aa
   rw [aa]
   simp
  refine .inl ⟨_, _, U _ _ M, h _ _ [(s, _)] (by simpa using L.store _) (.inr ⟨s, off, cap, _, by rw [aC], rfl, by simpa using G, h3, ?_, ?_⟩)⟩
  ·simp only [dn, aC, cP, fl, dz, n]
   rw [dw (by omega)]
   omega
  ·have hA : (p.toList.take (off + l.length * i.size)).length = off + l.length * i.size := by simp; omega
   show ((p.toList.take (off + l.length * i.size) ++ (fm ++ p.toList.drop (off + l.length * i.size + fm.length))).drop off).take ((l ++ m).length * i.size) = _
   rw [O, List.drop_append, gK, hA, show off - (off + l.length * i.size) = 0 by omega, List.drop_zero, show off + l.length * i.size - off = l.length * i.size by omega, h5]
   rw [aC, cH, eG, eG, J, n, du (by rw [J]; omega), show l.length * i.size + m.length * i.size - l.length * i.size = m.length * i.size by omega, du (by rw [n]; omega)]
   simp
 ·have hold : (Builtin.firstCells i.size l.length (.slice (some ⟨s, off, none⟩) l.length cap)).run P W.drew = .ok ((l.map enc).flatten).toArray W.drew := by
   refine run_firstCells_some W.drew i.size l.length ⟨s, off, none⟩ l.length cap _ J (fun j u hu => ?_)
   rw [dt]
   show W.cell? ⟨s, off + j, none⟩ = some u
   rw [fh W s (off + j) p e (0, 0) hg]
   rw [← h5] at hu
   have hj : j < l.length * i.size := by have := (aY.1 hu).1; simp at this; omega
   rw [cZ hj, dE] at hu
   simpa using hu
  have hlen : (l ++ m).length = l.length + m.length := aC
  have aj := iL W (l.length + m.length) cap e
  have ai := fI W (l.length + m.length) cap e Z.2
  have M := run_append_grow_src (P := P) W t t ty e i z ht hi hz (some ⟨s, off, none⟩) l.length cap ((l.map enc).flatten) hold _ m.length _ I (by omega) (by have := Z.2; unfold maxLen at this; omega) (growslice_fits (by omega) (by rw [a8]; exact Z.1))
  have h6 := L.drew.alloc (.cells (((l.map enc).flatten ++ fm).toArray ++ Builtin.zeroCells z.cells (grownCap W (l.length + m.length) cap e - (l.length + m.length))) e (0, 0))
  have h7 := (ST.drop (A := (W.drew.heap.size, _) :: X) h6).perm (L' := X ++ ([(W.heap.size, _)] ++ Y)) (by simpa using (eu (a := (W.heap.size, _)) (l₁ := X) (l₂ := Y)).symm)
  refine .inl ⟨_, _, U _ _ M, h _ _ _ h7 (jw.Pn (.inr ⟨W.heap.size, grownCap W (l.length + m.length) cap e, _, by rw [hlen], rfl, by rw [hlen]; exact aj, ai, ?_, ?_⟩))⟩
  ·rw [gX, gM, ab]
   simp only [dn, aC, J, n]
   rw [← cH, ← cH]
   congr 1
   omega
  ·rw [gB, List.toList_toArray, hlen, O, List.take_append_of_le_length (by simp only [aC, J, n]; rw [cH]; exact aQ _), du (by simp only [aC, J, n]; rw [cH]; exact aQ _)]
end
end Go.Proofs.YtjjjihkifgdhgaaGreatDoor
namespace Go.Proofs.YtjjjihkifgdhgaaGreatDoor
open Go.RowKit
variable [M : Md]
section
variable {P : Program} {ops : Array Oper} {Q : Exit → Act → World → Prop} {S : Array Bool → World → Prop}
def uS (ops : Array Oper) (l : Array Bool) : Prop := ∀ j o, ops[j]? = some o → l.getD j true = true → ∀ e ∈ o.after, Region.binds .any e = true → l.getD e.on true = true
def DT (ops : Array Oper) : Nat → List Nat → Bool
 | _, [] => true
 | j, k :: r => (match ops[j]? with | some o => o.after.any (fun e => Region.binds .any e && e.on == k) | none => false) && DT ops k r
theorem D9 {l : Array Bool} (d : uS ops l) : ∀ (r : List Nat) (j i : Nat), DT ops j r = true → (j :: r).getLast? = some i → l.getD j true = true → l.getD i true = true
 | [], j, i, _, h, b => by simp at h; subst h; exact b
 | k :: r, j, i, h, m, b => by
  simp only [DT, aP] at h
  obtain ⟨h1, g⟩ := h
  cases c : ops[j]? with
  | none => rw [c] at h1; cases h1
  | some o =>
   rw [c] at h1
   simp only [Array.any_eq_true] at h1
   obtain ⟨n, p, h1⟩ := h1
   simp only [aP, fJ] at h1
   have := d j o c b o.after[n] (Array.getElem_mem p) h1.1
   rw [h1.2] at this
   exact D9 d r k i g (by simpa [List.getLast?_cons_cons] using m) this
def Dz (ops : Array Oper) (i : Nat) (l : Array Bool) : Prop := uS ops l ∧ l.getD i true = false
theorem Dz.Bv {l : Array Bool} {i : Nat} (h : Dz ops i l) (j : Nat) (r : List Nat) (b : DT ops j r = true) (d : (j :: r).getLast? = some i) : l.getD j true = false := by
 cases c : l.getD j true with
 | false => rfl
 | true => have := D9 h.1 r j i b d c; rw [h.2] at this; cases this
theorem uS.start (n : Nat) (h : n = ops.size) : uS ops (Array.replicate n false) := by
 subst h
 intro j o d c
 have b : j < ops.size := (dl.1 d).1
 simp [b] at c
theorem uS.set {l : Array Bool} {i : Nat} (h : uS ops l) (r : i ∈ Region.ready .any ops l) : uS ops (l.setIfInBounds i true) := by
 intro j o q p e he n
 have up : ∀ {k : Nat}, l.getD k true = true → (l.setIfInBounds i true).getD k true = true := fun {k} hk => by
  by_cases d : i = k
  ·subst d
   by_cases m : i < l.size
   ·simp [m]
   ·simp [m]
  ·rw [iN true d]; exact hk
 by_cases c : i = j
 ·subst c
  obtain ⟨_, s, g, b⟩ := iT.1 r
  rw [q] at g
  cases g
  refine up ?_
  have := b e he n
  by_cases m : e.on < l.size
  ·simp [m] at this ⊢; exact this
  ·simp [m]
 ·rw [iN true c] at p
  exact up (h j o q p e he n)
def AA (P : Program) (ops : Array Oper) (S : Array Bool → World → Prop) (i : Nat) (o : Oper) (v : Value) (a : Act) : Prop :=
 (Region.wanted o (yielded ops a.tmps) = true ∧ ∀ l w, Dz ops i l → S l w → (execOp a.eval o).run P w = .ok (.value v) w) ∨
 (Region.wanted o (yielded ops a.tmps) = false ∧ v = undef)
theorem AA.Pq {i : Nat} {o : Oper} {v : Value} {a : Act} {l : Array Bool} (h : AA P ops S i o v a) (hp : Dz ops i l) : YieldsIf P ops (S l) o v a :=
 h.imp (fun ⟨h1, b⟩ => ⟨h1, fun w hw => b l w hp hw⟩) id
def Ks (P : Program) (ops : Array Oper) (Q : Exit → Act → World → Prop) (S : Array Bool → World → Prop) : Nat → Array Bool → Act → World → Prop
 | 0, l, a, w => Region.ready .any ops l = [] ∧ Q .normal a w
 | n + 1, l, a, w => (Region.ready .any ops l = [] → Q .normal a w) ∧
  ∀ i ∈ Region.ready .any ops l, wpOp P ops Q i (fun c b => S (l.setIfInBounds i true) b ∧ Ks P ops Q S n (l.setIfInBounds i true) c b) a w
theorem H6 : ∀ (n : Nat) (l : Array Bool) (a : Act) (w : World), Ks P ops Q S n l a w → wpAny P .any ops Q n l a w
 | 0, _, _, _, h => h
 | n + 1, _, _, _, h => ⟨h.1, fun i d => wpOp_mono (fun b g c => H6 n _ b g c.2) (h.2 i d)⟩
theorem Ku {i j : Nat} {d q : Oper} {v : Value} (u : ops[j]? = some q) (n : d.apart ops q = true) (o : ∀ cs b, d.op ≠ .select cs b) (p : ∀ cs b, q.op ≠ .select cs b) (t : ∀ c a w, Q (.panic c) (a.put d.dst v) w → Q (.panic c) a w) {K : Act → World → Prop} {a : Act} {w : World} (x : AA P ops S i d v a) (h : wpOp P ops Q j K (a.put d.dst v) w) :
  wpOp P ops Q j (fun g s => AA P ops S i d v g ∧ K (g.put d.dst v) s) a w := by
 have h1 : YieldsIf P ops (fun w => ∃ l, Dz ops i l ∧ S l w) d v a := x.imp (fun ⟨h1, m⟩ => ⟨h1, fun w ⟨l, hp, hw⟩ => m l w hp hw⟩) id
 refine wpOp_mono (fun g s r => ⟨r.1.imp (fun ⟨h1, m⟩ => ⟨h1, fun l w hp hw => m w ⟨l, hp, hw⟩⟩) id, r.2⟩) (wpOp_putIf (S := fun w => ∃ l, Dz ops i l ∧ S l w) u n o p t h1 h)
theorem FC {i : Nat} {x : Oper} {v : Value} (U : ops[i]? = some x) (s : ∀ (j : Nat) (o : Oper) cs b, ops[j]? = some o → o.op ≠ .select cs b) (hQ : ∀ c a w, Q (.panic c) (a.put x.dst v) w → Q (.panic c) a w) (hm : ∀ l w, S (l.setIfInBounds i true) w → S l w) :
  ∀ (n : Nat) (l : Array Bool) (a : Act) (w : World), (∀ j y, ops[j]? = some y → j ≠ i → l.getD j true = false → (∀ e ∈ y.after, Region.binds .any e = true → e.on ≠ i) → x.apart ops y = true) →
   uS ops l → i ∈ Region.ready .any ops l → AA P ops S i x v a → S (l.setIfInBounds i true) w → Ks P ops Q S n (l.setIfInBounds i true) (a.put x.dst v) w → Ks P ops Q S (n + 1) l a w := by
 intro n
 induction n with
 | zero =>
  intro l a w _ L q M z H
  refine ⟨fun h => (by rw [h] at q; cases q), fun j E => ?_⟩
  by_cases d : j = i
  ·subst d
   exact (M.Pq ⟨L, (iT.1 q).1⟩).wpOp U (hm l w z) ⟨z, H⟩
  ·have := ready_mono E d
   rw [H.1] at this
   cases this
 | succ n ih =>
  intro l a w m L q M z H
  refine ⟨fun h => (by rw [h] at q; cases q), fun j E => ?_⟩
  by_cases d : j = i
  ·subst d
   exact (M.Pq ⟨L, (iT.1 q).1⟩).wpOp U (hm l w z) ⟨z, H⟩
  have h1 := H.2 j (ready_mono E d)
  obtain ⟨r, y, u, A⟩ := iT.1 E
  have I : ∀ e ∈ y.after, Region.binds .any e = true → e.on ≠ i := fun e he hb T => by
   have t := A e he hb
   have h0 := (iT.1 q).1
   rw [T] at t
   rcases Nat.lt_or_ge i l.size with O | O
   ·simp [O] at h0 t; rw [h0] at t; cases t
   ·simp [Array.getElem?_eq_none O] at t
  have t := Ku u (m j y u d r I) (fun cs b => s i x cs b U) (fun cs b => s j y cs b u) hQ M h1
  have p : ∀ k ok, ops[k]? = some ok → k ≠ i → (l.setIfInBounds j true).getD k true = false → (∀ e ∈ ok.after, Region.binds .any e = true → e.on ≠ i) → x.apart ops ok = true := fun k ok hk W J Y => by
   refine m k ok hk W ?_ Y
   by_cases G : j = k
   ·subst G; exact r
   ·rw [iN true G] at J; exact J
  have g : (l.setIfInBounds i true).setIfInBounds j true = (l.setIfInBounds j true).setIfInBounds i true := Array.setIfInBounds_comm _ _ (Ne.symm d)
  refine wpOp_mono (fun a' Z R => ?_) t
  have h4 : S ((l.setIfInBounds j true).setIfInBounds i true) Z := by rw [← g]; exact R.2.1
  refine ⟨hm _ Z h4, ih (l.setIfInBounds j true) a' Z p (L.set E) (ready_mono q (Ne.symm d)) R.1 h4 ?_⟩
  rw [← g]
  exact R.2.2
end
theorem O7 {ro : Md} {P : Program} {o : Oper} {a : Act} {w : World} {K : Act → World → Prop} {Q : Exit → Act → World → Prop} (i : ∀ c, o.op ≠ .defer c) (h : o.wp P a w K Q) (l : ¬ LetsOut Q) : o.wpIn ro.F 0 P a w K Q := by
 refine ⟨fun _ _ => trivial, ?_⟩
 rw [Oper.semAt_eq _ _ _ i]
 unfold Oper.wp at h
 cases g : (execOp a.eval o).run P w with
 | ok x b =>
  rw [g] at h
  cases x with
  | value v => exact h
  | skip => exact h
  | defer d => exact h
  | enter f args => exact E2 (cR h fun e j he => by cases e with
   | returned v => exact he
   | panicked c => exact he
   | outgrown => exact he)
  | row r args => exact ⟨fun e => (nomatch (show (none : Option Nat).isSome = true from e)), fun c cs _ => by
    obtain ⟨v, b, r, s⟩ := h c cs
    exact ⟨v, b, r, (stepsIn_wide (P := P)).2 s⟩⟩
  | _ => exact h.elim
 | halt z b =>
  rw [g] at h
  cases z with
  | panic v => exact h
  | _ => exact h.elim
def Ix (ops : Array Oper) : Prop := ∀ (i : Nat) (o : Oper), ops[i]? = some o → ∀ c, o.op ≠ .defer c
theorem A4 {ro : Md} {P : Program} {ops : Array Oper} {Q : Exit → Act → World → Prop} (d : Ix ops) (c : ¬ LetsOut Q) : ∀ (n : Nat) (l : Array Bool) (a : Act) (w : World), wpAny P .any ops Q n l a w → wpAnyIn ro.F 0 P .any ops Q n l a w
 | 0, _, _, _, h => h
 | n + 1, l, a, w, h => ⟨h.1, fun i j => by
  have b := h.2 i j
  unfold wpOp at b
  unfold wpOpIn
  cases g : ops[i]? with
  | none => rw [g] at b; exact A4 d c n _ a w b
  | some o =>
   rw [g] at b
   simp only at b ⊢
   split
   ·rename_i hw
    rw [aW hw] at b
    rcases b with b | b
    ·exact Oper.wpIn_mono (fun a w h => A4 d c n _ a w h) (O7 (d i o g) b c)
    ·exact absurd b.2 c
   ·rename_i hw
    rw [aU hw] at b
    exact ⟨fun _ _ => trivial, A4 d c n _ _ w b⟩⟩
def I7 (l : List Oper) : Bool := l.all fun o => match o.op with
 | .defer _ => false
 | _ => true
theorem Nh {l : List Oper} (h : I7 l = true) : Ix l.toArray := fun i o b c d => by
 have hm : o ∈ l := by
  rw [gi] at b
  exact cX b
 have := dZ.1 h o hm
 rw [d] at this
 cases this
theorem NM [M : Md] {n : Nat} {Q : oP} : ¬ LetsOut (lift n Q) := fun ⟨_, _, h⟩ => h
def PX (P : Program) (n : Nat) (ops : Array Oper) (Q : oP) (S : Array Bool → World → Prop) (fuel : Nat) (listed : Array Bool) (E : Nat → Value) (W : World) : Prop :=
 uS ops listed → ∀ a, Ag n a E → Ks P ops (lift n Q) S fuel listed a W
section
variable {P : Program} {n : Nat} {Q : oP} {E : Nat → Value} {W : World} {ops : Array Oper} {S : Array Bool → World → Prop} {fuel : Nat} {listed : Array Bool}
theorem GB {id : Nat} {l : List Oper} (S : Array Bool → World → Prop) (hm : P.follows .mixedOrders = true) (h : PX P n l.toArray Q S l.length (Array.replicate l.length false) E W.drew) (b : I7 l = true) : CW P n (.region id l.toArray true) Q E W := fun a ha =>
 wpIn_region_any hm (A4 (Nh b) NM _ _ _ _ (H6 _ _ _ _ (h (uS.start _ (by simp)) a ha)))
def Bt (ops : Array Oper) (listed : Array Bool) (i : Nat) : Bool := Region.noSelect ops && Region.free .any ops listed i && (Region.ready .any ops listed).contains i
theorem jR {o : Oper} {dd : Nat} {v : Value} (i : Nat) (d : ops[i]? = some o) (hk : Bt ops listed i = true) (hw : sh n ops E o) (m : o.dst = some dd) (p : dd < n) (hm : ∀ l w, S (l.setIfInBounds i true) w → S l w) (j : S (listed.setIfInBounds i true) W) (q : ∀ l W, Dz ops i l → S l W → kH P E o W v W) (h : PX P n ops Q S fuel (listed.setIfInBounds i true) (nC E dd v) W) : PX P n ops Q S (fuel + 1) listed E W := fun c a ha => by
 simp only [Bt, aP] at hk
 have g : i ∈ Region.ready .any ops listed := by simpa using hk.2
 exact FC d (Region.noSelect_spec hk.1.1) (fun _ _ _ h => Hh h) hm fuel listed a W (Region.free_spec d hk.1.2) c g (.inl ⟨hw.of ha, fun l w hp b => by rw [ha.eval]; exact q l w hp b⟩) j (by rw [m]; exact h (c.set g) _ (ha.put p v))
theorem sD {A : Value → Prop} {o : Oper} {dd : Nat} (i : Nat) (g : ops[i]? = some o) (hk : Bt ops listed i = true) (hw : sh n ops E o) (d : o.dst = some dd) (j : dd < n) (hm : ∀ l w, S (l.setIfInBounds i true) w → S l w) (c : S (listed.setIfInBounds i true) W) (m : ∃ p, A p ∧ ∀ W, kH P E o W p W) (h : ∀ p, A p → PX P n ops Q S fuel (listed.setIfInBounds i true) (nC E dd p) W) : PX P n ops Q S (fuel + 1) listed E W := by
 obtain ⟨p, h1, b⟩ := m
 exact jR i g hk hw d j hm c (fun _ W _ _ => b W) (h p h1)
theorem MN {o : Oper} {dd : Nat} (i : Nat) (c : ops[i]? = some o) (hk : Bt ops listed i = true) (hw : ∀ a, Ag n a E → Region.wanted o (yielded ops a.tmps) = false) (j : o.dst = some dd) (m : dd < n) (hm : ∀ l w, S (l.setIfInBounds i true) w → S l w) (g : S (listed.setIfInBounds i true) W) (h : PX P n ops Q S fuel (listed.setIfInBounds i true) (nC E dd undef) W) : PX P n ops Q S (fuel + 1) listed E W := fun b a ha => by
 simp only [Bt, aP] at hk
 have d : i ∈ Region.ready .any ops listed := by simpa using hk.2
 exact FC c (Region.noSelect_spec hk.1.1) (fun _ _ _ h => Hh h) hm fuel listed a W (Region.free_spec c hk.1.2) b d (.inr ⟨hw a ha, rfl⟩) g (by rw [j]; exact h (b.set d) _ (ha.put m _))
theorem O4 {o : Oper} {dd j t : Nat} {want : Bool} (i : Nat) (m : ops[i]? = some o) (hk : Bt ops listed i = true) (g : o.guard = some (j, want)) (p : (ops[j]?).bind (·.dst) = some t) (r : t < n) (b : E t = .bool (!want)) (d : o.dst = some dd) (q : dd < n) (hm : ∀ l w, S (l.setIfInBounds i true) w → S l w) (c : S (listed.setIfInBounds i true) W) (h : PX P n ops Q S fuel (listed.setIfInBounds i true) (nC E dd undef) W) : PX P n ops Q S (fuel + 1) listed E W :=
 MN i m hk (fun a ha => by have s := ha.yield p r b; simp [Region.wanted, g, s]) d q hm c h
theorem OB {o : Oper} {dd : Nat} (i : Nat) (s : ops[i]? = some o) (d : Region.ready .any ops listed = [i]) (hw : sh n ops E o) (l : o.dst = some dd) (m : dd < n) (h : ma P E o W fun v W' => S (listed.setIfInBounds i true) W' ∧ PX P n ops Q S fuel (listed.setIfInBounds i true) (nC E dd v) W') : PX P n ops Q S (fuel + 1) listed E W := fun g a ha => by
 have b : i ∈ Region.ready .any ops listed := by rw [d]; simp
 refine ⟨fun r => (by rw [r] at d; cases d), fun j p => ?_⟩
 rw [d] at p
 obtain rfl := cK.1 p
 unfold wpOp
 simp only [s]
 rw [aW (hw.of ha)]
 refine .inl ?_
 unfold Oper.wp
 rw [ha.eval]
 rcases h with ⟨v, W', h1, c⟩ | ⟨W', h1, c⟩ | ⟨f, args, h1, c⟩
 ·rw [h1, Oper.upon_value]; exact ⟨c.1, by rw [l]; exact c.2 (g.set b) _ (ha.put m v)⟩
 ·rw [h1, Oper.upon_skip]; exact ⟨c.1, by rw [l]; exact c.2 (g.set b) _ (ha.put m _)⟩
 ·rw [h1, Oper.upon_enter]
  refine cR c ?_
  rintro e t ⟨v, rfl, q⟩
  exact ⟨q.1, by simp only [l]; exact q.2 (g.set b) _ (ha.put m v)⟩
theorem Pd {o : Oper} (i : Nat) (r : ops[i]? = some o) (d : Region.ready .any ops listed = [i]) (hw : sh n ops E o) (l : o.dst = none) (h : ma P E o W fun _ W' => S (listed.setIfInBounds i true) W' ∧ PX P n ops Q S fuel (listed.setIfInBounds i true) E W') : PX P n ops Q S (fuel + 1) listed E W := fun g a ha => by
 have b : i ∈ Region.ready .any ops listed := by rw [d]; simp
 refine ⟨fun q => (by rw [q] at d; cases d), fun j m => ?_⟩
 rw [d] at m
 obtain rfl := cK.1 m
 unfold wpOp
 simp only [r]
 rw [aW (hw.of ha)]
 refine .inl ?_
 unfold Oper.wp
 rw [ha.eval]
 rcases h with ⟨v, W', h1, c⟩ | ⟨W', h1, c⟩ | ⟨f, args, h1, c⟩
 ·rw [h1, Oper.upon_value, l]; exact ⟨c.1, c.2 (g.set b) _ (ha.xe _)⟩
 ·rw [h1, Oper.upon_skip, l]; exact ⟨c.1, c.2 (g.set b) _ (ha.xe _)⟩
 ·rw [h1, Oper.upon_enter]
  refine cR c ?_
  rintro e s ⟨v, rfl, p⟩
  simp only [l]
  exact ⟨p.1, p.2 (g.set b) _ (ha.xe _)⟩
theorem kJ (c : Region.ready .any ops listed = []) (h : Q .normal E W) : PX P n ops Q S fuel listed E W := fun _ a ha => by
 cases fuel with
 | zero => exact ⟨c, E, ha, h⟩
 | succ f => exact ⟨fun _ => ⟨E, ha, h⟩, fun i b => by rw [c] at b; cases b⟩
theorem xI {p : Prop} {b : Bool} (c : b = true) (h : b = false) : p := by rw [c] at h; cases h
theorem vm {b : Array Bool} (c : listed = b) (h : PX P n ops Q S fuel b E W) : PX P n ops Q S fuel listed E W := by rw [c]; exact h
theorem kx {l : Array Bool} {i j : Nat} {A : Prop} (b : Nat.beq i j = false) (h : (l.setIfInBounds i true).getD j true = false → A) : l.getD j true = false → A := fun c => h (by
 rw [iN true (fun e => by subst e; simp at b)]; exact c)
end
theorem xv.at {α : Type} {e : TypeId} {enc : α → List Value} {k : Nat} {v : Value} {l : List α} {R : List (Nat × Obj)} (h : jw e enc k v l R) (hk : ∀ x, (enc x).length = k) {p : Value} {i : Nat} (hp : xv R k p i) {x : α} (g : l[i]? = some x) : At (zK R) p (enc x) := by
 obtain ⟨c, b, cap, rfl, rfl, _, _, _, _, rfl, d⟩ := yx h hk hp g
 exact ⟨c, i * k, b, e, (0, 0), rfl, by simp [zK], d⟩
theorem tN.form {κ β : Type} {kenc : κ → Value} {vf : β → Value} {μ : jx} {v : Value} {l : List (κ × β)} (h : tN kenc vf μ v l) : ∃ r, v = .map r := by
 rcases h with ⟨h, _⟩ | ⟨m, es, clock, h, _⟩
 ·exact ⟨_, h⟩
 ·exact ⟨_, h⟩
noncomputable def DZ {β : Type} (l : List (ByteArray × β)) : Option (List ByteArray) :=
 open Classical in if (l.map (·.1)).Nodup ∧ (∀ p ∈ l, p.1.size ≤ maxLen) ∧ l.length * 16 ≤ 140737488355328 then some (sn (l.map (·.1))) else none
def J4 {κ κ2 β α : Type} (b : Nat) (mk : κ → κ2 → α) (l : List (κ × List (κ2 × β))) : Option (List α) :=
 if (l.flatMap (fun p => p.2.map (fun q => mk p.1 q.1))).length * b ≤ 140737488355328 ∧ (l.flatMap (fun p => p.2.map (fun q => mk p.1 q.1))).length ≤ maxLen then some (l.flatMap (fun p => p.2.map (fun q => mk p.1 q.1))) else none
end Go.Proofs.YtjjjihkifgdhgaaGreatDoor
namespace Go.Proofs.YtjjjihkifgdhgaaGreatDoor
open Go.RowKit
variable [M : Md]
section
variable {P : Program} {n : Nat} {Q : oP} {E : Nat → Value} {W : World} {ops : Array Oper} {rest : List Oper}
variable {dd : Bool} {α : Type} {enc : α → List Value} {k : Nat} {μ : jx} {v : Value}
variable {d : Option Nat} {ty : TypeId} {pos : String} {af : Array Edge} {g : Option (Nat × Bool)} {F : Nat → Prop} {w : World} {L : List (Nat × Obj)}
def FW (enc : α → List Value) (k : Nat) : oF (List α) := fun μ ys x => ∃ v, ys = [v] ∧ Sl (Pl enc) k μ v x
theorem FW.mono (enc : α → List Value) (k : Nat) : Ea (FW enc k) := fun _ _ _ _ c ⟨v, h1, b⟩ => ⟨v, h1, b.mono (Pl.mono _) c⟩
inductive zm (enc : α → List Value) (k : Nat) (μ : jx) : List Value → List (List α) → Prop
 | nil : zm enc k μ [] []
 | cons {v : Value} {x : List α} {vs : List Value} {l : List (List α)} : Sl (Pl enc) k μ v x → zm enc k μ vs l → zm enc k μ (v :: vs) (x :: l)
theorem zm.length {vs : List Value} {l : List (List α)} (h : zm enc k μ vs l) : vs.length = l.length := by
 induction h with
 | nil => rfl
 | cons _ _ ih => simp [ih]
theorem zm.get {vs : List Value} {l : List (List α)} (h : zm enc k μ vs l) : ∀ (i : Nat) (x : List α), l[i]? = some x → ∃ v, vs[i]? = some v ∧ Sl (Pl enc) k μ v x := by
 induction h with
 | nil => intro i x b; simp at b
 | cons h1 _ ih =>
  intro i x b
  cases i with
  | zero => simp at b; subst b; exact ⟨_, rfl, h1⟩
  | succ i => simpa using ih i x (by simpa using b)
theorem FW.lit {b m : Nat} {vs : List Value} {e : TypeId} {l : List (List α)} (hm : l.length = m) (g : m ≤ maxLen) (n : μ b = some (.cells vs.toArray e (0, 0))) (h : zm enc k μ vs l) : Sl (FW enc k) 1 μ (.slice (some ⟨b, 0, none⟩) m m) l := by
 subst hm
 refine ⟨_, _, rfl, aQ _, g, fun _ => ⟨b, 0, _, _, _, rfl, n, fun i x o => ?_⟩⟩
 obtain ⟨v, h1, d⟩ := h.get i x o
 refine ⟨[v], rfl, ⟨v, rfl, d⟩, fun j y c => ?_⟩
 cases j with
 | zero => simp at c; subst c; simpa using h1
 | succ j => simp at c
theorem Gp {k2 : Nat} {t e : TypeId} {x b : Operand} {u : IntKind} {i : Int} {l : List (List α)} {x0 : List α} (r : P.underlying t = some (.slice e)) (he : ∀ w, (sizeOf e).run P w = .ok 1 w) (s : je E x = v) (n : je E b = .int u i) (q : Sl (FW enc k2) 1 μ v l) (c : 0 ≤ i) (o : l[i.toNat]? = some x0) :
  ∃ p, (∃ v0, At μ p [v0] ∧ Sl (Pl enc) k2 μ v0 x0) ∧ ∀ W, kH P E ⟨d, .indexAddr t x b, ty, pos, af, g⟩ W p W := by
 obtain ⟨p, ys, h1, ⟨v0, rfl, h⟩, j, m⟩ := E7 (d := d) (ty := ty) (pos := pos) (af := af) (g := g) r he s n q c o
 exact ⟨p, ⟨v0, j, h⟩, m⟩
theorem Gt {x : Operand} {t e : TypeId} (b : P.underlying t = some (.slice e)) (c : je E x = .slice none 0 0) : kH P E ⟨d, .call ⟨.builtin .cap, #[x], #[t]⟩, ty, pos, af, g⟩ W (.int .i64 0) W := by
 show (do let d ← resolve (je E) ⟨.builtin .cap, #[x], #[t]⟩ ty; invoke d.target d.args : Sem Next).run P W = _
 simp [resolve, invoke, builtin, Builtin.cap_, aR b, c, goInt]
theorem N8 {x y : Operand} {ats : Array TypeId} {k : IntKind} {a b : Int} (c : je E x = .int k a) (h : je E y = .int k b) :
  kH P E ⟨d, .call ⟨.builtin .max, #[x, y], ats⟩, ty, pos, af, g⟩ W (.int k (if b > a then b else a)) W := by
 show (do let d ← resolve (je E) ⟨.builtin .max, #[x, y], ats⟩ ty; invoke d.target d.args : Sem Next).run P W = _
 simp [resolve, invoke, c, h, builtin, Builtin.max_, Builtin.max2]
theorem Jw {t e : TypeId} {x ih : Operand} {i : IntKind} (c : P.underlying t = some (.slice e)) (he : ∀ w, (sizeOf e).run P w = .ok k w) (h : je E x = .slice none 0 0) (b : je E ih = .int i 0) :
  kH P E ⟨d, .slice t x none (some ih) none, ty, pos, af, g⟩ W (.slice none 0 0) W := by
 show (do pure (.value (← Instr.sliceAt t (je E x) none (some (je E ih)) none)) : Sem Next).run P W = _
 rw [h, b]
 simp [Instr.sliceAt, Instr.slice, Instr.sliceBounds, Instr.sliceBound, asIntOf, aR c, he W]
def EK {α : Type} (b : Nat) (z : α) (n : Int) : Option (List α) := if 0 < n ∧ n * b ≤ 140737488355328 ∧ n ≤ (maxLen : Int) then some (List.replicate n.toNat z) else none
theorem DR (t m ty e : TypeId) (i : TypeInfo) (z : Value) (v : P.underlying t = some (.slice e)) (l : P.underlying m = some (.int .i64)) (q : P.info? e = some i) (w : i.zero = some z) (n : Nat) (o : 0 < n) (u : 0 < i.size) (p : n ≤ 9223372036854775807) (d : n * i.bytes ≤ 140737488355328) (W : World) :
  (Builtin.append_ #[t, m] ty #[.slice none 0 0, .int .i64 (n : Int)]).run P W =
   .ok (.slice (some ⟨W.heap.size, 0, none⟩) n (grownCap W n 0 e)) (W.drew.alloc (.cells (Builtin.zeroCells z.cells n ++ Builtin.zeroCells z.cells (grownCap W n 0 e - n)) e)) := by
 have hw : IntKind.i64.wrap (n : Int) = (n : Int) := by unfold IntKind.wrap; simp [IntKind.bits, IntKind.signed]; omega
 have h1 : ¬ ((n : Int) < 0) := by omega
 have b : ¬ (281474976710656 < (n : Int) * i.bytes) := by
  have := Int.ofNat_le.2 d
  rw [Int.natCast_mul] at this
  omega
 have g : ¬ (n * i.size = 0) := fun h => by rcases Nat.mul_eq_zero.1 h with h | h <;> omega
 have r : n ≠ 0 := by omega
 have s : i.size ≠ 0 := by omega
 have c : ¬ (9223372036854775807 < (n : Int)) := by omega
 have j : ¬ (281474976710656 < Builtin.nextslicecap n 0 * i.bytes) := by rw [nextslicecap_zero o]; omega
 simp [Builtin.append_, aR v, aR l, sizeOf, typeInfo, zeroValue, q, w, asInt, asIntOf, hw, h1, b, r, c, j, Question.forced, run_firstCells_none, newRow, grownCap]
 exact fun h => absurd h g
theorem GS {K : Value → World → Prop} {α : Type} {e t A : TypeId} {enc : α → List Value} {k q : Nat} {j : Value} {n : Int} {z : α} {r : List α} (X : List (Nat × Obj)) {Y : List (Nat × Obj)} {x y : Operand} {i : TypeInfo} (l : ST dd F w W μ (X ++ Y)) (hk : ∀ x, (enc x).length = k) (T : 0 < k) (ht : P.underlying t = some (.slice e)) (a1 : P.underlying A = some (.int .i64)) (hi : P.info? e = some i) (hz : i.zero = some j) (Z : i.size = k) (M : i.bytes = q) (hc : j.cells = (enc z).toArray) (hx : je E x = .slice none 0 0) (hy : je E y = .int .i64 n) (c : EK q z n = some r) (h : ∀ W' v' R', ST dd F w W' μ (X ++ (R' ++ Y)) → jw e enc k v' r R' → K v' W') : ma P E ⟨d, .call ⟨.builtin .append, #[x, y], #[t, A]⟩, ty, pos, af, g⟩ W K := by
 unfold EK at c
 split at c
 case isFalse => cases c
 rename_i L
 cases c
 obtain ⟨n, rfl⟩ : ∃ m : Nat, n = (m : Int) := ⟨n.toNat, by omega⟩
 have U : 0 < n := by omega
 subst Z; subst M
 have hM : n ≤ maxLen := by omega
 have J : n ≤ 9223372036854775807 := by simp only [maxLen] at hM; omega
 have I : n * i.bytes ≤ 140737488355328 := Int.ofNat_le.1 (by rw [Int.natCast_mul]; exact L.2.1)
 have hr := DR (P := P) t A ty e i j ht a1 hi hz n U T J I W
 have u : (execOp (je E) ⟨d, .call ⟨.builtin .append, #[x, y], #[t, A]⟩, ty, pos, af, g⟩).run P W = .ok (.value (.slice (some ⟨W.heap.size, 0, none⟩) n (grownCap W n 0 e))) (W.drew.alloc (.cells (Builtin.zeroCells j.cells n ++ Builtin.zeroCells j.cells (grownCap W n 0 e - n)) e)) := by
  show (do let d ← resolve (je E) ⟨.builtin .append, #[x, y], #[t, A]⟩ ty; invoke d.target d.args : Sem Next).run P W = _
  simp [resolve, invoke, builtin, hx, hy, hr]
 have Q := ng _ _ _ _ hr
 refine .inl ⟨_, _, u, ?_⟩
 have R := iL W n 0 e
 have O : grownCap W n 0 e ≤ maxLen := fI W n 0 e hM
 have a6 : ∀ m, (Builtin.zeroCells j.cells m).toList = (List.replicate m (enc z)).flatten := fun m => by rw [hc, Az]
 have v : j.cells.size = i.size := by rw [hc, dn, hk]
 have p : jw e enc i.size (.slice (some ⟨W.heap.size, 0, none⟩) n (grownCap W n 0 e)) (List.replicate n z) [(W.heap.size, .cells (Builtin.zeroCells j.cells n ++ Builtin.zeroCells j.cells (grownCap W n 0 e - n)) e (0, 0))] := by
  refine .inr ⟨W.heap.size, grownCap W n 0 e, _, by rw [List.length_replicate], rfl, by simpa using R, O, ?_, ?_⟩
  ·simp only [gX, gM, v, ← cH]
   congr 1
   omega
  ·have G : (Builtin.zeroCells j.cells n).toList.length = n * i.size := by rw [dz, gM, v]
   rw [List.length_replicate, gB, ← G, fW, a6, gL]
 refine h _ _ _ ?_ p
 have hex : Ex dd W (W.drew.alloc (.cells (Builtin.zeroCells j.cells n ++ Builtin.zeroCells j.cells (grownCap W n 0 e - n)) e)) := ⟨rfl, rfl, rfl, qI.of Q, by simp, fun b c => heap_alloc_old W.drew _ c⟩
 have h1 := l.Ew hex
 have s := h1.nd
 refine ⟨h1.os, h1.tape, h1.output, h1.drawn, h1.size, h1.kO, h1.mem, fun b o c => ?_, ?_⟩
 ·simp only [aO, cK] at c
  rcases c with c | c | c
  ·exact h1.box b o (by simp [c])
  ·cases c
   refine ⟨heap_alloc_new W.drew _, ?_, .inl l.size⟩
   cases hm : μ W.heap.size with
   | none => rfl
   | some x => have := l.AV hm; omega
  ·exact h1.box b o (by simp [c])
 ·simp only [bV, bI, eo, eW] at s ⊢
  refine (fw eu).2 (cT.2 ⟨fun hm => ?_, s⟩)
  rw [← bV] at hm
  obtain ⟨⟨b, o⟩, c, G⟩ := bG.1 hm
  have := l.BQ c
  simp at G
  omega
end
end Go.Proofs.YtjjjihkifgdhgaaGreatDoor
namespace Go.Proofs.YtjjjihkifgdhgaaGreatDoor
open Go.RowKit
variable {dd : Bool}
section
variable {P : Program} {fn : Func} {R : Ending → World → Prop} {E : Nat → Value} {W : World}
theorem tq {b : Tmp} {t0 : TypeId} {a0 : Addr} {v0 : Value} {c : Tmp} {v1 : Value} (g : fn.results = #[.cell b t0, .tmp c]) (d : E b = .pointer (some a0)) (j : (Instr.loadAt t0 (.pointer (some a0))).run P W = .ok v0 W) (h1 : E c = v1) (h : R (.returned (.tuple #[v0, v1])) W) : uL P fn R .ret E W :=
 ⟨.tuple #[v0, v1], fun tmps i => by
  have l : (loadVar t0 a0).run P W = .ok v0 W := by simpa [Instr.loadAt, Instr.sureAddr] using j
  simp [results, g, i, asAddr, d, l, h1], h⟩
theorem LD {b : Tmp} {v0 : Value} {c : Tmp} {v1 : Value} {d : Tmp} {v2 : Value} (j : fn.results = #[.tmp b, .tmp c, .tmp d]) (g : E b = v0) (h1 : E c = v1) (i : E d = v2) (h : R (.returned (.tuple #[v0, v1, v2])) W) : uL P fn R .ret E W :=
 ⟨.tuple #[v0, v1, v2], fun tmps l => by
  skip
  simp [results, j, l, asAddr, g, h1, i], h⟩
end
end Go.Proofs.YtjjjihkifgdhgaaGreatDoor
namespace Go.Proofs.YtjjjihkifgdhgaaGreatDoor
open Go.RowKit
variable [M : Md]
section
variable {x y : Nat × Obj} {A B C L R S : List (Nat × Obj)}
theorem Pz : (x :: A).Perm (x :: A) := .refl _
theorem Pb (h : A.Perm (x :: B)) : (y :: A).Perm (x :: y :: B) := (h.cons y).trans (.swap ..)
theorem Pr (h : A.Perm (x :: B)) : (S ++ A).Perm (x :: (S ++ B)) := (h.append_left S).trans eu
theorem Qz : (R ++ A).Perm (R ++ A) := .refl _
theorem Qb (h : A.Perm (R ++ B)) : (y :: A).Perm (R ++ (y :: B)) := (h.cons y).trans List.perm_middle.symm
theorem Qr (h : A.Perm (R ++ B)) : (S ++ A).Perm (R ++ (S ++ B)) := (h.append_left S).trans (fb S R B)
def mh (L L' : List (Nat × Obj)) : Prop := ∃ M, L.Perm (L' ++ M)
theorem Sn : mh L [] := ⟨L, .refl _⟩
theorem St : mh L L := ⟨[], by rw [aT]⟩
theorem Sb (h : L.Perm (x :: A)) (k : mh A B) : mh L (x :: B) := let ⟨M, m⟩ := k; ⟨M, h.trans (m.cons x)⟩
theorem Sr (h : L.Perm (R ++ A)) (k : mh A B) : mh L (R ++ B) := let ⟨M, m⟩ := k; ⟨M, by rw [aI]; exact h.trans (m.append_left R)⟩
theorem Kb (k : mh A B) : mh (x :: A) (x :: B) := Sb Pz k
theorem Kr (k : mh A B) : mh (R ++ A) (R ++ B) := Sr Qz k
theorem Db (k : mh A B) : mh (x :: A) B := let ⟨M, m⟩ := k; ⟨x :: M, (m.cons x).trans List.perm_middle.symm⟩
theorem Dr (k : mh A B) : mh (R ++ A) B := let ⟨M, m⟩ := k; ⟨R ++ M, (m.append_left R).trans (fb R B M)⟩
theorem mh.mem (s : mh L A) : ∀ p, p ∈ A → p ∈ L := fun p hp => let ⟨M, m⟩ := s; m.mem_iff.2 (cA _ hp)
theorem ST.jc {dd : Bool} {F : Nat → Prop} {w W : World} {μ : jx} (h : ST dd F w W μ L) (s : mh L A) : ST dd F w W μ A := let ⟨M, m⟩ := s; (h.perm m).sublist (List.sublist_append_left A M)
theorem mI.jc {μ : jx} {W : World} (h : mI μ L W) (s : mh L A) : mI μ A W := h.sub (jC.refl _) s.mem
theorem mI.qZ {μ μ' : jx} {W : World} (h : mI μ L W) (b : jC μ' μ) (s : mh L A) : mI μ' A W := h.sub b s.mem
theorem Cn : L.Perm ([] ++ L) := .refl _
theorem Cb (h : L.Perm (x :: A)) (k : A.Perm (B ++ C)) : L.Perm ((x :: B) ++ C) := h.trans (k.cons x)
theorem Cr (h : L.Perm (R ++ A)) (k : A.Perm (B ++ C)) : L.Perm ((R ++ B) ++ C) := by rw [aI]; exact h.trans (k.append_left R)
theorem C0 (k : L.Perm (B ++ C)) : L.Perm (([] ++ B) ++ C) := k
theorem Tn : ([] ++ A).Perm A := .refl _
theorem Tb (h : (A ++ B).Perm C) : ((x :: A) ++ B).Perm (x :: C) := h.cons x
theorem Tr (h : (A ++ B).Perm C) : ((R ++ A) ++ B).Perm (R ++ C) := by rw [aI]; exact h.append_left R
theorem Nb (h : L.Perm (x :: A)) (k : A.Perm B) : L.Perm (x :: B) := h.trans (k.cons x)
theorem Nr (h : L.Perm (R ++ A)) (k : A.Perm B) : L.Perm (R ++ B) := h.trans (k.append_left R)
theorem Nz : L.Perm L := .refl _
theorem Qc {R' R1 : List (Nat × Obj)} (hp : R.Perm (R' ++ R1)) : (R ++ A).Perm (R' ++ (R1 ++ A)) := by rw [← aI]; exact hp.append_right A
theorem Mh : x ∈ x :: A := .head _
theorem Mt (h : x ∈ A) : x ∈ y :: A := .tail _ h
theorem Ma (h : x ∈ A) : x ∈ R ++ A := dI _ h
theorem Ml (h : x ∈ R) : x ∈ R ++ A := cA _ h
end
section
variable {dd : Bool} {F : Nat → Prop} {w W : World} {μ : jx} {L L0 L1 Y R : List (Nat × Obj)}
theorem ST.KH (h : ST dd lG w W μ L) (s : mh L L1) : rr dd [] L1 w W := let ⟨_, m⟩ := s; (h.perm m).Ph
theorem ST.lO (h : ST dd (keys L0) w W μ L) (s : mh L L1) : rr dd L0 L1 w W := let ⟨_, m⟩ := s; (h.perm m).OU
theorem ST.GI : ∀ {R : List (Nat × Obj)} {μ : jx}, ST dd F w W μ (R ++ Y) → ∃ μ', ST dd F w W μ' Y ∧ jC μ μ' ∧ Lo F w μ μ' ∧ ∀ b o, (b, o) ∈ R → μ' b = some o
 | [], μ, h => ⟨μ, h, jC.refl _, Lo.refl, fun _ _ h => by cases h⟩
 | (g, o) :: R, μ, h => by
  have d : ST dd F w W μ ([] ++ (g, o) :: (R ++ Y)) := h
  obtain ⟨μ', i, a2, a3, a4⟩ := ST.GI (R := R) (ST.E6 (A := []) d)
  refine ⟨μ', i, (ST.E4 (A := []) d).trans a2, (ST.Kd (A := []) d).trans a3, fun b j c => ?_⟩
  rcases aM.1 c with c | c
  ·cases c; exact a2 _ _ (aW rfl)
  ·exact a4 b j c
theorem ST.Oj {α : Type} {e' : TypeId} {enc : α → List Value} {k : Nat} {v : Value} {l : List α} (b : ST dd F w W μ (R ++ Y)) (h : jw e' enc k v l R) (hk : ∀ x, (enc x).length = k) : ∃ μ', ST dd F w W μ' Y ∧ jC μ μ' ∧ Lo F w μ μ' ∧ Sl (Pl enc) k μ' v l := by
 obtain ⟨μ', c, a2, a3, a4⟩ := ST.GI b
 exact ⟨μ', c, a2, a3, h.sl hk a4⟩
section
variable {P : Program} {n : Nat} {Q : oP} {E : Nat → Value} {V : World} {id : Nat} {l : List Oper} {A B C : List (Nat × Obj)}
theorem kC (c : mI μ A V.drew) (hm : P.follows .mixedOrders = true) (h : PX P n l.toArray Q (fun _ W => mI μ A W) l.length (Array.replicate l.length false) E V.drew) (b : I7 l = true := by kernel_rfl) : CW P n (.region id l.toArray true) Q E V := GB _ hm h b
theorem sR (i : Nat) (c : mI μ A V.drew) (h1 : mI μ B V.drew) (hm : P.follows .mixedOrders = true) (h : PX P n l.toArray Q (fun l W => mI μ A W ∧ (l.getD i true = false → mI μ B W)) l.length (Array.replicate l.length false) E V.drew) (b : I7 l = true := by kernel_rfl) : CW P n (.region id l.toArray true) Q E V := GB _ hm h b
end
structure nf (μ : jx) (L0 : List (Nat × Obj)) (w : World) : Prop where
 H : BU L0 w
 N : (L0.map (·.1)).Nodup
 S : jC μ (rU w L0)
theorem ST.EA (h : nf μ L0 w) : ST dd (keys L0) w w μ L0 := (ST.NQ h.H h.N).lI h.S
end
section
variable {dd : Bool} {P : Program} {E : Nat → Value} {W : World} {d : Option Nat} {ty : TypeId} {pos : String} {af : Array Edge} {g : Option (Nat × Bool)} {F : Nat → Prop} {w : World} {μ : jx} {L : List (Nat × Obj)}
theorem jz {K : Value → World → Prop} {B : List (Nat × Obj)} {t : TypeId} {x y : Operand} (v : Value) {b off : Nat} {cs : Array Value} {T : TypeId} (c : Array Value) (i : ST dd F w W μ ((b, .cells cs T (0, 0)) :: B)) (n : je E x = .pointer (some ⟨b, off, none⟩)) (o : je E y = v) (j : ∀ w, (sizeOf t).run P w = .ok v.cells.size w) (h1 : ∀ u ∈ v.cells.toList, u.oneCell' = true) (m : off + v.cells.size ≤ cs.size) (l : (cs.toList.take off ++ v.cells.toList ++ cs.toList.drop (off + v.cells.size)).toArray = c) (h : ∀ W', ST dd F w W' μ ((b, .cells c T (0, 0)) :: B) → K undef W') : ma P E ⟨d, .store t x y, ty, pos, af, g⟩ W K := Nj [] v c i n o j h1 m l h
end
section
variable {dd : Bool}
variable {P : Program} {n : Nat} {Q : oP} {E : Nat → Value} {W : World} {ops : Array Oper} {rest : List Oper}
 {d : Option Nat} {ty : TypeId} {pos : String} {af : Array Edge} {g : Option (Nat × Bool)}
 {F : Nat → Prop} {w : World} {μ : jx} {L : List (Nat × Obj)}
theorem nL {K : Value → World → Prop} {α : Type} {e t : TypeId} {enc : α → List Value} {k b : Nat} {z v vs : Value} {l m r : List α} {R Y : List (Nat × Obj)} {x y : Operand} {i : TypeInfo} (c : ST dd F w W μ (R ++ Y)) (hk : ∀ x, (enc x).length = k) (n : 0 < k) (h1 : ∀ x, ∀ u ∈ enc x, u.oneCell' = true) (J : P.underlying t = some (.slice e)) (G : P.info? e = some i) (O : i.zero = some z) (p : z.cells.size = k) (o : i.size = k) (j : i.bytes = b) (L : je E x = v) (M : je E y = vs) (s : jw e enc k v l R) (I : Sl (Pl enc) k (hp W) vs m) (A : kN b l m = some r) (h : ∀ W' q R', ST dd F w W' μ (R' ++ Y) → jw e enc k q r R' → K q W') : ma P E ⟨d, .call ⟨.builtin .append, #[x, y], #[t, t]⟩, ty, pos, af, g⟩ W K :=
 Hg [] c hk n h1 J G O p o j L M s I A h
end
section
variable {dd : Bool}
variable {P : Program} {E : Nat → Value} {W : World} {d : Option Nat} {ty : TypeId} {pos : String} {af : Array Edge} {g : Option (Nat × Bool)}
 {F : Nat → Prop} {w : World} {μ : jx} {L : List (Nat × Obj)}
theorem IH {K : Value → World → Prop} {α : Type} {e : TypeId} {enc : α → List Value} {k : Nat} {l : List α} {f : FuncId} {fv : Operand} {ax : Array Operand} {ats : Array TypeId} {b : Array Value} {args : List Value} (Y : List (Nat × Obj)) (c : ST dd F w W μ Y) (j : je E fv = .func (.func f) #[] b) (he : ∀ args w, (callFunc f args).run P w = .ok (.enter f args) w) (ha : ax.map (je E) ++ b = args.toArray) (i : lJ dd P f args W e enc k l) (h : ∀ W' v μ' R, ST dd F w W' μ' (R ++ Y) → jC μ μ' → Lo F w μ μ' → jw e enc k v l R → K v W') : ma P E ⟨d, .call ⟨.value fv, ax, ats⟩, ty, pos, af, g⟩ W K :=
 Ja [] Y c j he ha i h
end
section
variable {dd : Bool}
variable {P : Program} {E : Nat → Value} {W : World} {d : Option Nat} {ty : TypeId} {pos : String} {af : Array Edge} {g : Option (Nat × Bool)}
 {F : Nat → Prop} {w : World} {μ : jx} {L : List (Nat × Obj)} {α : Type} {e' : TypeId} {enc : α → List Value} {k : Nat} {v : Value} {l : List α} {R : List (Nat × Obj)}
theorem AN {K : Value → World → Prop} {Y : List (Nat × Obj)} {t : TypeId} {x y : Operand} {p u : Value} {i : Nat} {x0 x1 : α} (b : ST dd F w W μ (R ++ Y)) (h : jw e' enc k v l R) (hk : ∀ x, (enc x).length = k) (h1 : ∀ x, ∀ u ∈ enc x, u.oneCell' = true) (n : je E x = p) (o : je E y = u) (hu : u.cells = (enc x1).toArray) (hp : xv R k p i) (m : l[i]? = some x0) (j : ∀ w, (sizeOf t).run P w = .ok k w) (c : ∀ W' R', ST dd F w W' μ (R' ++ Y) → jw e' enc k v (l.set i x1) R' → K undef W') : ma P E ⟨d, .store t x y, ty, pos, af, g⟩ W K :=
 Jo [] b h hk h1 n o hu hp m j c
end
section
variable {dd : Bool}
variable {P : Program} {E : Nat → Value} {W : World} {d : Option Nat} {ty : TypeId} {pos : String} {af : Array Edge} {g : Option (Nat × Bool)}
 {F : Nat → Prop} {w : World} {μ : jx} {L : List (Nat × Obj)} {α : Type} {e' : TypeId} {enc : α → List Value} {k : Nat} {v : Value} {l : List α} {R : List (Nat × Obj)}
theorem Af {K : Value → World → Prop} (z : α) {Y : List (Nat × Obj)} {t e : TypeId} {x : Operand} {u c : Value} {i : Nat} (b : ST dd F w W μ (R ++ Y)) (h : jw e' enc k v l R) (hk : ∀ x, (enc x).length = k) (h1 : ∀ x, ∀ u ∈ enc x, u.oneCell' = true) (n : P.underlying t = some (.slice e)) (p : ∀ w, (zeroValue e).run P w = .ok c w) (hu : yj k v i u) (m : c.cells = (enc z).toArray) (o : je E x = u) (j : ∀ W' R', ST dd F w W' μ (R' ++ Y) → jw e' enc k v (nv l i z) R' → K (.tuple #[]) W') : ma P E ⟨d, .call ⟨.builtin .clear, #[x], #[t]⟩, ty, pos, af, g⟩ W K :=
 HW z [] b h hk h1 n p hu m o j
end
section
variable {dd : Bool}
variable {κ γ : Type} {Q : Value → γ → List (Nat × Obj) → Prop} {beq : κ → κ → Bool} {kenc : κ → Value}
variable {P : Program} {W : World} {kt : TypeId} {E : Nat → Value} {d : Option Nat} {ty : TypeId} {pos : String} {af : Array Edge} {g : Option (Nat × Bool)} {F : Nat → Prop} {w : World} {μ : jx} {L : List (Nat × Obj)}
variable {κ2 β : Type} {kenc2 : κ2 → Value} {vf : β → Value} {beq2 : κ2 → κ2 → Bool} {kt2 : TypeId}
theorem Jz {i : Value → World → Prop} {Y R : List (Nat × Obj)} {t e : TypeId} {m x y : Operand} {n : Value} {c : List (κ × Value)} {l j : List (κ × List (κ2 × β))} {k : κ} {k2 : κ2} {v : β} (hk : ∀ {x y : κ}, beq x y = true → x = y) (K : nX P kt2 kenc2 beq2) (q : P.underlying t = some (.map kt2 e)) (b : ST dd F w W μ (R ++ Y)) (h : lN kenc (kD kenc2 vf) n c l R) (hm : je E m = pE beq c k (.map none)) (r : je E x = kenc2 k2) (s : je E y = vf v) (p : DJ beq beq2 l k k2 v = some j) (o : ∀ W' R', ST dd F w W' μ (R' ++ Y) → lN kenc (kD kenc2 vf) n c j R' → i undef W') : ma P E ⟨d, .mapUpdate t m x y, ty, pos, af, g⟩ W i :=
 Kw [] hk K q b h hm r s p o
end
section
variable {dd : Bool}
variable {κ γ : Type} {Q : Value → γ → List (Nat × Obj) → Prop} {beq : κ → κ → Bool} {kenc : κ → Value}
variable {P : Program} {W : World} {kt : TypeId} {E : Nat → Value} {d : Option Nat} {ty : TypeId} {pos : String} {af : Array Edge} {g : Option (Nat × Bool)} {F : Nat → Prop} {w : World} {μ : jx} {L : List (Nat × Obj)}
variable {κ2 β : Type} {kenc2 : κ2 → Value} {vf : β → Value} {beq2 : κ2 → κ2 → Bool} {kt2 : TypeId}
theorem KK {i : Value → World → Prop} {Y R R2 : List (Nat × Obj)} {t e : TypeId} {m x y : Operand} {c : Value} {n : List (κ × Value)} {l j : List (κ × γ)} {k : κ} {u : Value} {z : γ} (K : nX P kt kenc beq) (r : P.underlying t = some (.map kt e)) (b : ST dd F w W μ (R ++ (R2 ++ Y))) (h : lN kenc Q c n l R) (hm : je E m = c) (s : je E x = kenc k) (v : je E y = u) (q : Q u z R2) (p : DM beq l k z = some j) (o : ∀ W' R', ST dd F w W' μ (R' ++ Y) → lN kenc Q c (mS beq n k u) j R' → i undef W') : ma P E ⟨d, .mapUpdate t m x y, ty, pos, af, g⟩ W i :=
 J0 [] K r b h hm s v q p o
end
section
variable {dd : Bool}
variable {κ γ : Type} {Q : Value → γ → List (Nat × Obj) → Prop} {beq : κ → κ → Bool} {kenc : κ → Value}
variable {P : Program} {W : World} {kt : TypeId} {E : Nat → Value} {d : Option Nat} {ty : TypeId} {pos : String} {af : Array Edge} {g : Option (Nat × Bool)} {F : Nat → Prop} {w : World} {μ : jx} {L : List (Nat × Obj)}
theorem NP {i : Value → World → Prop} {Y R R1 : List (Nat × Obj)} {t e : TypeId} {m x y : Operand} {c : Value} {j : List (κ × Value)} {l : List (κ × γ)} {k : κ} {u : Value} {z : γ} (K : nX P kt kenc beq) (p : P.underlying t = some (.map kt e)) (b : ST dd F w W μ (R ++ (R1 ++ Y))) (h : Jb beq kenc Q c j l k R) (hm : je E m = c) (q : je E x = kenc k) (r : je E y = u) (o : Q u z R1) (n : ∀ W' R', ST dd F w W' μ (R' ++ Y) → lN kenc Q c (mS beq j k u) (mS beq l k z) R' → i undef W') : ma P E ⟨d, .mapUpdate t m x y, ty, pos, af, g⟩ W i :=
 Og [] K p b h hm q r o n
end
section
variable {dd : Bool}
variable {κ γ : Type} {Q : Value → γ → List (Nat × Obj) → Prop} {beq : κ → κ → Bool} {kenc : κ → Value}
variable {P : Program} {W : World} {kt : TypeId} {E : Nat → Value} {d : Option Nat} {ty : TypeId} {pos : String} {af : Array Edge} {g : Option (Nat × Bool)} {F : Nat → Prop} {w : World} {μ : jx} {L : List (Nat × Obj)}
theorem Js {j : Value → World → Prop} {Y R : List (Nat × Obj)} {t e : TypeId} {m x : Operand} {i z : Value} {x0 : γ} {s : List (κ × Value)} {l : List (κ × γ)} {k : κ} (hk : ∀ {x y : κ}, beq x y = true ↔ x = y) (K : nX P kt kenc beq) (p : P.underlying t = some (.map kt e)) (r : ∀ w, (zeroValue e).run P w = .ok z w) (c : Q z x0 []) (b : ST dd F w W μ (R ++ Y)) (h : lN kenc Q i s l R) (hm : je E m = i) (q : je E x = kenc k) (o : ∀ W' v n R' R1, ST dd F w W' μ (R' ++ (R1 ++ Y)) → Q v ((jX beq l k).getD x0) R1 → Gk beq kenc Q i l k n R' → j (.tuple #[v, .int .i64 (n : Nat)]) W') : ma P E ⟨d, .mapEntry t m x, ty, pos, af, g⟩ W j :=
 IM [] hk K p r c b h hm q o
end
section
variable {dd : Bool}
variable {κ γ : Type} {Q : Value → γ → List (Nat × Obj) → Prop} {beq : κ → κ → Bool} {kenc : κ → Value}
variable {P : Program} {W : World} {kt : TypeId} {E : Nat → Value} {d : Option Nat} {ty : TypeId} {pos : String} {af : Array Edge} {g : Option (Nat × Bool)} {F : Nat → Prop} {w : World} {μ : jx} {L : List (Nat × Obj)}
theorem Hr {j : Value → World → Prop} {Y R R1 : List (Nat × Obj)} {t e : TypeId} {m s y : Operand} {i u : Value} {z : γ} {l : List (κ × γ)} {k : κ} {n : Nat} (hk : ∀ {x y : κ}, beq x y = true ↔ x = y) (K : nX P kt kenc beq) (b : ST dd F w W μ (R ++ (R1 ++ Y))) (h : Gk beq kenc Q i l k n R) (hm : je E m = i) (q : je E s = .int .i64 (n : Nat)) (r : je E y = u) (p : Q u z R1) (o : ∀ W' c R', ST dd F w W' μ (R' ++ Y) → lN kenc Q i c (mS beq l k z) R' → j undef W') : ma P E ⟨d, .entryStore t m s y, ty, pos, af, g⟩ W j :=
 Hs (e := e) [] hk K b h hm q r p o
end
section
variable {dd : Bool}
variable {α : Type} {e : TypeId} {enc : α → List Value} {k : Nat} {v : Value} {l : List α} {R : List (Nat × Obj)}
variable {P : Program} {W : World} {E : Nat → Value} {d : Option Nat} {ty : TypeId} {pos : String} {af : Array Edge} {g : Option (Nat × Bool)} {F : Nat → Prop} {w : World} {μ : jx} {L : List (Nat × Obj)}
theorem HM {K : Value → World → Prop} {t : TypeId} {b : Nat} {z vs : Value} {m r : List α} {Y : List (Nat × Obj)} {x y : Operand} {i : TypeInfo} (c : ST dd F w W μ (R ++ Y)) (hk : ∀ x, (enc x).length = k) (n : 0 < k) (h1 : ∀ x, ∀ u ∈ enc x, u.oneCell' = true) (J : P.underlying t = some (.slice e)) (G : P.info? e = some i) (O : i.zero = some z) (p : z.cells.size = k) (o : i.size = k) (j : i.bytes = b) (L : je E x = v) (M : je E y = vs) (s : oI e enc k v l R) (I : Sl (Pl enc) k (hp W) vs m) (A : kN b l m = some r) (h : ∀ W' q R', ST dd F w W' μ (R' ++ Y) → oI e enc k q r R' → K q W') : ma P E ⟨d, .call ⟨.builtin .append, #[x, y], #[t, t]⟩, ty, pos, af, g⟩ W K :=
 HI [] c hk n h1 J G O p o j L M s I A h
end
section
variable {P : Program} {n : Nat} {Q : oP} {E : Nat → Value} {W : World} {ops : Array Oper} {rest : List Oper}
variable {dd : Bool} {α : Type} {enc : α → List Value} {k : Nat} {μ : jx} {v : Value}
variable {d : Option Nat} {ty : TypeId} {pos : String} {af : Array Edge} {g : Option (Nat × Bool)} {F : Nat → Prop} {w : World} {L : List (Nat × Obj)}
theorem G8 {K : Value → World → Prop} {α : Type} {e t p : TypeId} {enc : α → List Value} {k b : Nat} {s : Value} {n : Int} {z : α} {r : List α} {Y : List (Nat × Obj)} {x y : Operand} {i : TypeInfo} (c : ST dd F w W μ Y) (hk : ∀ x, (enc x).length = k) (l : 0 < k) (G : P.underlying t = some (.slice e)) (o : P.underlying p = some (.int .i64)) (A : P.info? e = some i) (L : i.zero = some s) (m : i.size = k) (j : i.bytes = b) (v : s.cells = (enc z).toArray) (I : je E x = .slice none 0 0) (J : je E y = .int .i64 n) (u : EK b z n = some r) (h : ∀ W' q R', ST dd F w W' μ (R' ++ Y) → jw e enc k q r R' → K q W') : ma P E ⟨d, .call ⟨.builtin .append, #[x, y], #[t, p]⟩, ty, pos, af, g⟩ W K :=
 GS [] c hk l G o A L m j v I J u h
end
end Go.Proofs.YtjjjihkifgdhgaaGreatDoor
namespace Go.Proofs.YtjjjihkifgdhgaaGreatDoor
open Go.RowKit
variable [M : Md]
section
variable {P : Program} {n : Nat} {Q : oP} {E : Nat → Value} {W : World} {ops : Array Oper} {rest : List Oper}
variable {d j t : Nat} {want : Bool} {v : Value} {ins : Go.Op} {ty : TypeId} {pos : String} {af : Array Edge} {A : Value → Prop}
theorem V (c : kH P E ⟨some d, ins, ty, pos, af, none⟩ W v W) (h : LW P n ops Q rest (nC E d v) W) (b : d < n := by decide) : LW P n ops Q (⟨some d, ins, ty, pos, af, none⟩ :: rest) E W := Fv (.inl rfl) rfl b c h
theorem VE (h : ma P E ⟨some d, ins, ty, pos, af, none⟩ W fun v W' => LW P n ops Q rest (nC E d v) W') (b : d < n := by decide) : LW P n ops Q (⟨some d, ins, ty, pos, af, none⟩ :: rest) E W := N1 (.inl rfl) rfl b h
theorem VO (h : ma P E ⟨none, ins, ty, pos, af, none⟩ W fun _ W' => LW P n ops Q rest E W') : LW P n ops Q (⟨none, ins, ty, pos, af, none⟩ :: rest) E W := OW (.inl rfl) rfl h
theorem VQ (c : ∃ p, A p ∧ ∀ W, kH P E ⟨some d, ins, ty, pos, af, none⟩ W p W) (h : ∀ p, A p → LW P n ops Q rest (nC E d p) W) (b : d < n := by decide) : LW P n ops Q (⟨some d, ins, ty, pos, af, none⟩ :: rest) E W := OL (.inl rfl) rfl b c h
theorem Vg (c : (ops[j]?).bind (·.dst) = some t) (b : E t = .bool want) (i : kH P E ⟨some d, ins, ty, pos, af, some (j, want)⟩ W v W) (h : LW P n ops Q rest (nC E d v) W) (l : t < n := by decide) (g : d < n := by decide) : LW P n ops Q (⟨some d, ins, ty, pos, af, some (j, want)⟩ :: rest) E W := Fv (.inr ⟨j, want, t, rfl, c, l, b⟩) rfl g i h
theorem Kh (c : (ops[j]?).bind (·.dst) = some t) (b : E t = .bool want) (h : ma P E ⟨some d, ins, ty, pos, af, some (j, want)⟩ W fun v W' => LW P n ops Q rest (nC E d v) W') (i : t < n := by decide) (g : d < n := by decide) : LW P n ops Q (⟨some d, ins, ty, pos, af, some (j, want)⟩ :: rest) E W := N1 (.inr ⟨j, want, t, rfl, c, i, b⟩) rfl g h
theorem Qd (c : (ops[j]?).bind (·.dst) = some t) (b : E t = .bool want) (i : ∃ p, A p ∧ ∀ W, kH P E ⟨some d, ins, ty, pos, af, some (j, want)⟩ W p W) (h : ∀ p, A p → LW P n ops Q rest (nC E d p) W) (l : t < n := by decide) (g : d < n := by decide) : LW P n ops Q (⟨some d, ins, ty, pos, af, some (j, want)⟩ :: rest) E W := OL (.inr ⟨j, want, t, rfl, c, l, b⟩) rfl g i h
theorem Vn (c : (ops[j]?).bind (·.dst) = some t) (b : E t = .bool (!want)) (h : LW P n ops Q rest (nC E d undef) W) (i : t < n := by decide) (g : d < n := by decide) : LW P n ops Q (⟨some d, ins, ty, pos, af, some (j, want)⟩ :: rest) E W := O3 rfl g rfl c i b h
end
section
variable {P : Program} {n : Nat} {Q : oP} {E : Nat → Value} {W : World} {ops : Array Oper} {S : Array Bool → World → Prop} {fuel : Nat} {listed : Array Bool} {μ : jx} {B : List (Nat × Obj)}
variable {d j t : Nat} {want : Bool} {v : Value} {ins : Go.Op} {ty : TypeId} {pos : String} {af : Array Edge} {A : Value → Prop}
theorem X (i : Nat) (c : ops[i]? = some ⟨some d, ins, ty, pos, af, none⟩) (b : S (listed.setIfInBounds i true) W) (j : ∀ {W}, kH P E ⟨some d, ins, ty, pos, af, none⟩ W v W) (h : PX P n ops Q S fuel (listed.setIfInBounds i true) (nC E d v) W) (hk : Bt ops listed i = true := by kernel_rfl) (hm : ∀ l w, S (l.setIfInBounds i true) w → S l w := by exact fun _ _ h => h) (g : d < n := by decide) : PX P n ops Q S (fuel + 1) listed E W := jR i c hk (.inl rfl) rfl g hm b (fun _ _ _ _ => j) h
theorem XH (i : Nat) (c : ops[i]? = some ⟨some d, ins, ty, pos, af, none⟩) (b : mI μ B W) (j : ∀ W, mI μ B W → kH P E ⟨some d, ins, ty, pos, af, none⟩ W v W) (h : PX P n ops Q (fun _ W => mI μ B W) fuel (listed.setIfInBounds i true) (nC E d v) W) (hk : Bt ops listed i = true := by kernel_rfl) (g : d < n := by decide) : PX P n ops Q (fun _ W => mI μ B W) (fuel + 1) listed E W := jR i c hk (.inl rfl) rfl g (fun _ _ h => h) b (fun _ W _ h => j W h) h
theorem XQ (i : Nat) (c : ops[i]? = some ⟨some d, ins, ty, pos, af, none⟩) (b : S (listed.setIfInBounds i true) W) (j : ∃ p, A p ∧ ∀ W, kH P E ⟨some d, ins, ty, pos, af, none⟩ W p W) (h : ∀ p, A p → PX P n ops Q S fuel (listed.setIfInBounds i true) (nC E d p) W) (hk : Bt ops listed i = true := by kernel_rfl) (hm : ∀ l w, S (l.setIfInBounds i true) w → S l w := by exact fun _ _ h => h) (g : d < n := by decide) : PX P n ops Q S (fuel + 1) listed E W := sD i c hk (.inl rfl) rfl g hm b j h
theorem XE (i : Nat) (b : ops[i]? = some ⟨some d, ins, ty, pos, af, none⟩) (h : ma P E ⟨some d, ins, ty, pos, af, none⟩ W fun v W' => S (listed.setIfInBounds i true) W' ∧ PX P n ops Q S fuel (listed.setIfInBounds i true) (nC E d v) W') (g : Region.ready .any ops listed = [i] := by kernel_rfl) (c : d < n := by decide) : PX P n ops Q S (fuel + 1) listed E W := OB i b g (.inl rfl) rfl c h
theorem XO (i : Nat) (b : ops[i]? = some ⟨none, ins, ty, pos, af, none⟩) (h : ma P E ⟨none, ins, ty, pos, af, none⟩ W fun _ W' => S (listed.setIfInBounds i true) W' ∧ PX P n ops Q S fuel (listed.setIfInBounds i true) E W') (c : Region.ready .any ops listed = [i] := by kernel_rfl) : PX P n ops Q S (fuel + 1) listed E W := Pd i b c (.inl rfl) rfl h
theorem Xg (i : Nat) (g : ops[i]? = some ⟨some d, ins, ty, pos, af, some (j, want)⟩) (m : (ops[j]?).bind (·.dst) = some t) (b : E t = .bool want) (c : S (listed.setIfInBounds i true) W) (q : ∀ {W}, kH P E ⟨some d, ins, ty, pos, af, some (j, want)⟩ W v W) (h : PX P n ops Q S fuel (listed.setIfInBounds i true) (nC E d v) W) (hk : Bt ops listed i = true := by kernel_rfl) (hm : ∀ l w, S (l.setIfInBounds i true) w → S l w := by exact fun _ _ h => h) (p : t < n := by decide) (o : d < n := by decide) : PX P n ops Q S (fuel + 1) listed E W := jR i g hk (.inr ⟨j, want, t, rfl, m, p, b⟩) rfl o hm c (fun _ _ _ _ => q) h
theorem xY (i : Nat) (g : ops[i]? = some ⟨some d, ins, ty, pos, af, some (j, want)⟩) (l : (ops[j]?).bind (·.dst) = some t) (b : E t = .bool want) (c : mI μ B W) (p : ∀ W, mI μ B W → kH P E ⟨some d, ins, ty, pos, af, some (j, want)⟩ W v W) (h : PX P n ops Q (fun _ W => mI μ B W) fuel (listed.setIfInBounds i true) (nC E d v) W) (hk : Bt ops listed i = true := by kernel_rfl) (o : t < n := by decide) (m : d < n := by decide) : PX P n ops Q (fun _ W => mI μ B W) (fuel + 1) listed E W := jR i g hk (.inr ⟨j, want, t, rfl, l, o, b⟩) rfl m (fun _ _ h => h) c (fun _ W _ h => p W h) h
theorem Ih (i : Nat) (c : ops[i]? = some ⟨some d, ins, ty, pos, af, some (j, want)⟩) (g : (ops[j]?).bind (·.dst) = some t) (b : E t = .bool want) (h : ma P E ⟨some d, ins, ty, pos, af, some (j, want)⟩ W fun v W' => S (listed.setIfInBounds i true) W' ∧ PX P n ops Q S fuel (listed.setIfInBounds i true) (nC E d v) W') (m : Region.ready .any ops listed = [i] := by kernel_rfl) (o : t < n := by decide) (l : d < n := by decide) : PX P n ops Q S (fuel + 1) listed E W := OB i c m (.inr ⟨j, want, t, rfl, g, o, b⟩) rfl l h
theorem Xn (i : Nat) (g : ops[i]? = some ⟨some d, ins, ty, pos, af, some (j, want)⟩) (m : (ops[j]?).bind (·.dst) = some t) (b : E t = .bool (!want)) (c : S (listed.setIfInBounds i true) W) (h : PX P n ops Q S fuel (listed.setIfInBounds i true) (nC E d undef) W) (hk : Bt ops listed i = true := by kernel_rfl) (hm : ∀ l w, S (l.setIfInBounds i true) w → S l w := by exact fun _ _ h => h) (p : t < n := by decide) (o : d < n := by decide) : PX P n ops Q S (fuel + 1) listed E W := O4 i g hk rfl m p b rfl o hm c h
end
end Go.Proofs.YtjjjihkifgdhgaaGreatDoor
namespace Go.Proofs.YtjjjihkifgdhgaaGreatDoor
open Go.RowKit
section
variable {α β γ : Type}
inductive nU (Q : α → β → Prop) : List α → List β → Prop
 | nil : nU Q [] []
 | cons {a : α} {b : β} {l : List α} {m : List β} : Q a b → nU Q l m → nU Q (a :: l) (b :: m)
namespace nU
variable {Q Q' : α → β → Prop}
theorem length {l : List α} {m : List β} (h : nU Q l m) : l.length = m.length := by
 induction h with
 | nil => rfl
 | cons _ _ ih => simp [ih]
theorem imp {l : List α} {m : List β} (h : nU Q l m) (c : ∀ a b, Q a b → Q' a b) : nU Q' l m := by
 induction h with
 | nil => exact .nil
 | cons h1 _ ih => exact .cons (c _ _ h1) ih
theorem get {l : List α} {m : List β} (h : nU Q l m) : ∀ {i : Nat} {b : β}, m[i]? = some b → ∃ a, l[i]? = some a ∧ Q a b := by
 induction h with
 | nil => intro i b c; simp at c
 | cons h1 _ ih =>
  intro i b c
  cases i with
  | zero => simp at c; subst c; exact ⟨_, rfl, h1⟩
  | succ i => simpa using ih (by simpa using c)
theorem append {l b : List α} {m c : List β} (h : nU Q l m) (d : nU Q b c) : nU Q (l ++ b) (m ++ c) := by
 induction h with
 | nil => exact d
 | cons h1 _ ih => exact .cons h1 ih
theorem set {l : List α} {m : List β} (h : nU Q l m) {a : α} {b : β} (d : Q a b) : ∀ i : Nat, nU Q (l.set i a) (m.set i b) := by
 induction h with
 | nil => intro i; exact .nil
 | cons h1 c ih =>
  intro i
  cases i with
  | zero => exact .cons d c
  | succ i => exact .cons h1 (ih i)
theorem take {l : List α} {m : List β} (h : nU Q l m) : ∀ i : Nat, nU Q (l.take i) (m.take i) := by
 induction h with
 | nil => intro i; simp; exact .nil
 | cons h1 _ ih =>
  intro i
  cases i with
  | zero => exact .nil
  | succ i => exact .cons h1 (ih i)
theorem drop {l : List α} {m : List β} (h : nU Q l m) : ∀ i : Nat, nU Q (l.drop i) (m.drop i) := by
 induction h with
 | nil => intro i; simp; exact .nil
 | cons h1 b ih =>
  intro i
  cases i with
  | zero => exact .cons h1 b
  | succ i => exact ih i
end nU
theorem Ae {P : Nat → β → α → Prop} : ∀ {m : List β} (o : Nat), (∀ (i : Nat) (b : β), m[i]? = some b → ∃ a, P (o + i) b a) → ∃ l : List α, l.length = m.length ∧ ∀ (i : Nat) (b : β), m[i]? = some b → ∃ a, l[i]? = some a ∧ P (o + i) b a
 | [], _, _ => ⟨[], rfl, fun i b h => by simp at h⟩
 | b :: m, o, h => by
  obtain ⟨a, ha⟩ := h 0 b rfl
  obtain ⟨l, h1, g⟩ := Ae (m := m) (o + 1) (fun i b j => by
   obtain ⟨a, ha⟩ := h (i + 1) b (by simpa using j)
   exact ⟨a, by rw [show o + 1 + i = o + (i + 1) by omega]; exact ha⟩)
  refine ⟨a :: l, by simp [h1], fun i c d => ?_⟩
  cases i with
  | zero => simp at d; subst d; exact ⟨a, rfl, ha⟩
  | succ i =>
   obtain ⟨x, n, hp⟩ := g i c (by simpa using d)
   exact ⟨x, by simpa using n, by rw [show o + (i + 1) = o + 1 + i by omega]; exact hp⟩
theorem nU.KA {Q : α → β → Prop} : ∀ {l : List α} {m : List β}, l.length = m.length → (∀ (i : Nat) (a : α) (b : β), l[i]? = some a → m[i]? = some b → Q a b) → nU Q l m
 | [], [], _, _ => .nil
 | [], _ :: _, h, _ => by cases h
 | _ :: _, [], h, _ => by cases h
 | a :: l, b :: m, h, c => .cons (c 0 a b rfl rfl) (nU.KA (by simpa using h) (fun i x y d g => c (i + 1) x y (by simpa using d) (by simpa using g)))
end
structure Deep {β : Type} (R : oF β) (k : Nat) : Prop where
 mono : Ea R
 len : ∀ {μ ys x}, R μ ys x → ys.length = k
 one : ∀ {μ ys x}, R μ ys x → ∀ u ∈ ys, u.oneCell' = true
abbrev uA (k : Nat) := {ys : List Value // ys.length = k ∧ ∀ u ∈ ys, u.oneCell' = true}
def sS {k : Nat} (c : uA k) : List Value := c.1
theorem wN {k : Nat} (x : uA k) : (sS x).length = k := x.2.1
theorem LS {k : Nat} (x : uA k) : ∀ u ∈ sS x, u.oneCell' = true := x.2.2
theorem Sl.zB {α : Type} {R : oF α} {k : Nat} {μ : jx} {v : Value} {l : List α} (h : Sl R k μ v l) : v.oneCell' = true := by
 obtain ⟨A, c, rfl, _⟩ := h; rfl
section
variable {β : Type} {Rl : oF β} {k : Nat} {μ μ' : jx} {v : Value} {l : List β}
def Deep.cell (b : Deep Rl k) {ys : List Value} {x : β} (h : Rl μ ys x) : uA k := ⟨ys, b.len h, b.one h⟩
theorem Sl.raw (z : Deep Rl k) (h : Sl Rl k μ v l) : ∃ cl : List (uA k), Sl (Pl sS) k μ v cl ∧ nU (fun c x => Rl μ c.1 x) cl l := by
 obtain ⟨A, c, rfl, h1, s, u⟩ := h
 cases l with
 | nil => exact ⟨[], ⟨A, c, rfl, h1, s, fun h => absurd h (by simp)⟩, .nil⟩
 | cons x0 l =>
  obtain ⟨b, off, cs, T, fr, rfl, E, w⟩ := u (by simp)
  obtain ⟨cl, p, r⟩ := Ae (P := fun i x (c : uA k) => Rl μ c.1 x ∧ ∀ j y, c.1[j]? = some y → cs[off + i * k + j]? = some y) (m := x0 :: l) 0 (fun i x q => by
   obtain ⟨ys, _, g, n⟩ := w i x q
   exact ⟨z.cell g, g, by rw [dL]; exact n⟩)
  refine ⟨cl, ⟨_, c, by rw [p], by omega, s, fun _ => ⟨b, off, cs, T, fr, rfl, E, fun i c o => ?_⟩⟩, nU.KA p (fun i c x o q => ?_)⟩
  ·have G : i < (x0 :: l).length := by rw [← p]; exact (aY.1 o).1
   obtain ⟨t, d, _, n⟩ := r i _ (dx G)
   rw [o] at d; cases d
   exact ⟨c.1, c.2.1, rfl, by rw [dL] at n; exact n⟩
  ·obtain ⟨t, d, g, _⟩ := r i x q
   rw [o] at d; cases d
   exact g
theorem Sl.Kg {cl : List (uA k)} (h : Sl (Pl sS) k μ v cl) (t : jC μ μ') (ha : nU (fun c x => Rl μ' c.1 x) cl l) : Sl Rl k μ' v l := by
 obtain ⟨A, c, rfl, h1, n, o⟩ := h
 have d := ha.length
 refine ⟨A, c, by rw [d], by omega, n, fun w => ?_⟩
 obtain ⟨b, off, cs, T, fr, rfl, q, p⟩ := o (by omega)
 refine ⟨b, off, cs, T, fr, rfl, t _ _ q, fun i x u => ?_⟩
 obtain ⟨c, r, s⟩ := ha.get u
 obtain ⟨ys, g, j, m⟩ := p i c r
 cases j
 exact ⟨sS c, g, s, m⟩
def zp (Rl : oF β) (k : Nat) (μ : jx) (W : World) (v : Value) (l : List β) : Prop := ∃ cl : List (uA k), Sl (Pl sS) k (hp W) v cl ∧ nU (fun c x => Rl μ c.1 x) cl l
theorem zp.sl (c : Deep Rl k) {W : World} (h : Sl Rl k μ v l) (d : jC μ (hp W)) : zp Rl k μ W v l := by
 obtain ⟨cl, h1, b⟩ := h.raw c
 exact ⟨cl, h1.mono (Pl.mono _) d, b⟩
theorem Sl.LV {b m : Nat} {cl : List (uA k)} {cs : Array Value} {e : TypeId} (hm : cl.length = m) (c : m ≤ maxLen) (g : cs.toList = (cl.map sS).flatten) (d : μ b = some (.cells cs e (0, 0))) : Sl (Pl sS) k μ (.slice (some ⟨b, 0, none⟩) m m) cl := by
 subst hm
 refine ⟨_, _, rfl, aQ _, c, fun _ => ⟨b, 0, _, _, _, rfl, d, fun i x h => ⟨sS x, wN x, rfl, fun j y l => ?_⟩⟩⟩
 have := vu wN cl i x h j y l
 rw [← g] at this
 simpa using this
inductive AQ (Rl : oF β) (k : Nat) (μ : jx) : List Value → List β → Prop
 | nil : AQ Rl k μ [] []
 | cons {ys zs : List Value} {x : β} {l : List β} : Rl μ ys x → AQ Rl k μ zs l → AQ Rl k μ (ys ++ zs) (x :: l)
theorem AQ.cells (d : Deep Rl k) {ys : List Value} (h : AQ Rl k μ ys l) : ∃ cl : List (uA k), (cl.map sS).flatten = ys ∧ nU (fun c x => Rl μ c.1 x) cl l := by
 induction h with
 | nil => exact ⟨[], rfl, .nil⟩
 | cons h1 _ ih =>
  obtain ⟨cl, e, b⟩ := ih
  exact ⟨d.cell h1 :: cl, by rw [bI, bH, e]; rfl, .cons h1 b⟩
theorem zp.lit (g : Deep Rl k) {W : World} {b m : Nat} {ys : List Value} {e : TypeId} (h : AQ Rl k μ ys l) (hm : l.length = m) (i : m ≤ maxLen) (j : W.heap[b]? = some (.cells ys.toArray e (0, 0))) : zp Rl k μ W (.slice (some ⟨b, 0, none⟩) m m) l := by
 obtain ⟨cl, d, c⟩ := h.cells g
 exact ⟨cl, Sl.LV (by rw [c.length]; exact hm) i d.symm j, c⟩
theorem Sl.imp {R R' : oF β} (h : Sl R k μ v l) (q : ∀ ys x, R μ ys x → R' μ ys x) : Sl R' k μ v l := by
 obtain ⟨A, c, rfl, h1, d, g⟩ := h
 refine ⟨A, c, rfl, h1, d, fun r => ?_⟩
 obtain ⟨b, off, cs, T, fr, rfl, p, j⟩ := g r
 exact ⟨b, off, cs, T, fr, rfl, p, fun i x s => let ⟨ys, m, n, o⟩ := j i x s; ⟨ys, m, q _ _ n, o⟩⟩
theorem Cm : ∀ (l : List Nat) (n : Nat), n ∈ l → n ≤ l.foldr max 0
 | [], n, h => by cases h
 | a :: l, n, h => by
  rcases aM.1 h with rfl | h
  ·exact Nat.le_max_left _ _
  ·exact dr (Cm l n h) (Nat.le_max_right _ _)
theorem Sl.O6 {R : oF β} {d : Nat → oF β} (h : Sl R k μ v l) (E : ∀ ys x, R μ ys x → ∃ n, d n μ ys x) (up : ∀ n m ys x, n ≤ m → d n μ ys x → d m μ ys x) : ∃ n, Sl (d n) k μ v l := by
 obtain ⟨A, c, rfl, h1, s, w⟩ := h
 by_cases t : 0 < l.length
 ·obtain ⟨b, off, cs, T, fr, rfl, G, z⟩ := w t
  obtain ⟨J, L, u⟩ := Ae (P := fun i x (p : Nat × List Value) => p.2.length = k ∧ d p.1 μ p.2 x ∧ ∀ j y, p.2[j]? = some y → cs[off + i * k + j]? = some y) (m := l) 0 (fun i x r => by
   obtain ⟨ys, o, q, g⟩ := z i x r
   obtain ⟨n, I⟩ := E _ _ q
   exact ⟨(n, ys), o, I, by rw [dL]; exact g⟩)
  refine ⟨(J.map (·.1)).foldr max 0, _, c, rfl, h1, s, fun _ => ⟨b, off, cs, T, fr, rfl, G, fun i x r => ?_⟩⟩
  obtain ⟨p, hp, o, q, g⟩ := u i x r
  exact ⟨p.2, o, up _ _ _ _ (Cm _ _ (bG.2 ⟨p, cX hp, rfl⟩)) q, by rw [dL] at g; exact g⟩
 ·exact ⟨0, A, c, rfl, h1, s, fun h => absurd h t⟩
def kd (e : TypeId) (Rl : oF β) (k : Nat) (μ : jx) (v : Value) (l : List β) (B : List (Nat × Obj)) : Prop := ∃ cl : List (uA k), jw e sS k v cl B ∧ nU (fun c x => Rl μ c.1 x) cl l
variable {e : TypeId} {B : List (Nat × Obj)}
theorem kd.mono (c : Deep Rl k) (h : kd e Rl k μ v l B) (d : jC μ μ') : kd e Rl k μ' v l B := by
 obtain ⟨cl, h1, b⟩ := h
 exact ⟨cl, h1, b.imp (fun _ _ h => c.mono _ _ _ _ d h)⟩
theorem kd.nil (e : TypeId) (Rl : oF β) (k : Nat) (μ : jx) : kd e Rl k μ (.slice none 0 0) [] [] := ⟨[], jw.nil _ _ _, .nil⟩
theorem kd.lit (g : Deep Rl k) {b m : Nat} {ys : List Value} (h : AQ Rl k μ ys l) (hm : l.length = m) (i : m ≤ maxLen) (j : ys.length = m * k) : kd e Rl k μ (.slice (some ⟨b, 0, none⟩) m m) l [(b, .cells ys.toArray e (0, 0))] := by
 obtain ⟨cl, d, c⟩ := h.cells g
 exact ⟨cl, jw.lit (by rw [c.length]; exact hm) i d.symm (by simpa using j), c⟩
theorem kd.form (h : kd e Rl k μ v l B) : ∃ A c, v = .slice A l.length c := by
 obtain ⟨cl, h1, b⟩ := h
 rw [← b.length]; exact h1.form
theorem kd.len (h : kd e Rl k μ v l B) : l.length ≤ 9223372036854775807 := by
 obtain ⟨cl, h1, b⟩ := h
 rw [← b.length]; exact h1.len
theorem kd.nd (h : kd e Rl k μ v l B) : (B.map (·.1)).Nodup := let ⟨_, h1, _⟩ := h; h1.nd
theorem kd.isNil {n c : Nat} (h : kd e Rl k μ (.slice none n c) l B) : l = [] := by
 obtain ⟨cl, h1, b⟩ := h
 have := b.length
 rw [h1.isNil] at this
 exact aN this.symm
theorem kd.sl (h : kd e Rl k μ v l B) (d : Deep Rl k) (g : jC μ μ') (hm : ∀ b o, (b, o) ∈ B → μ' b = some o) : Sl Rl k μ' v l := by
 obtain ⟨cl, h1, c⟩ := h
 exact Sl.Kg (h1.sl wN hm) (jC.refl _) (c.imp (fun _ _ h => d.mono _ _ _ _ g h))
end
section
variable {β : Type} {Rl : oF β} {k : Nat} {μ : jx} {v : Value} {l : List β} {e : TypeId} {B : List (Nat × Obj)}
variable {dd : Bool} {F : Nat → Prop} {w W : World} {L : List (Nat × Obj)}
theorem kd.Pp (h : kd e Rl k μ v l B) (c : Deep Rl k) (b : ST dd F w W μ L) (d : ∀ p, p ∈ B → p ∈ L) : Sl Rl k (hp W) v l := h.sl c b.jk (fun _ _ g => b.at_ (d _ g))
theorem zp.row (h : kd e Rl k μ v l B) (b : ST dd F w W μ L) (d : ∀ p, p ∈ B → p ∈ L) : zp Rl k μ W v l := let ⟨cl, h1, c⟩ := h; ⟨cl, h1.Pp wN b d, c⟩
theorem ST.wB {Y : List (Nat × Obj)} (g : Deep Rl k) (b : ST dd F w W μ (B ++ Y)) (h : kd e Rl k μ v l B) : ∃ μ', ST dd F w W μ' Y ∧ jC μ μ' ∧ Lo F w μ μ' ∧ Sl Rl k μ' v l := by
 obtain ⟨cl, h1, d⟩ := h
 obtain ⟨μ', c, a2, a4, a3⟩ := ST.Oj b h1 wN
 exact ⟨μ', c, a2, a4, Sl.Kg a3 (jC.refl _) (d.imp (fun _ _ h => g.mono _ _ _ _ a2 h))⟩
variable {P : Program} {E : Nat → Value} {d : Option Nat} {ty : TypeId} {pos : String} {af : Array Edge} {g : Option (Nat × Bool)}
theorem mW {t e' : TypeId} {x b : Operand} {y : IntKind} {i : Int} {x0 : β} {A : List Value → Prop} (q : ∀ {ys}, Rl μ ys x0 → A ys) (s : P.underlying t = some (.slice e')) (he : ∀ w, (sizeOf e').run P w = .ok k w) (u : je E x = v) (n : je E b = .int y i) (r : Sl Rl k μ v l) (c : 0 ≤ i) (o : l[i.toNat]? = some x0) :
  ∃ p, (∃ ys, A ys ∧ At μ p ys) ∧ ∀ W, kH P E ⟨d, .indexAddr t x b, ty, pos, af, g⟩ W p W := by
 obtain ⟨p, ys, _, h, j, m⟩ := E7 (d := d) (ty := ty) (pos := pos) (af := af) (g := g) s he u n r c o
 exact ⟨p, ⟨ys, q h, j⟩, m⟩
theorem vP {x : Operand} {t e' : TypeId} (b : P.underlying t = some (.slice e')) (i : je E x = v) (h : kd e Rl k μ v l B) : kH P E ⟨d, .call ⟨.builtin .len, #[x], #[t]⟩, ty, pos, af, g⟩ W (.int .i64 l.length) W := by
 obtain ⟨A, c, rfl⟩ := h.form
 exact xa b i
theorem ky {t e' : TypeId} {x m : Operand} {I : IntKind} {i : Int} {x0 : β} {A : List Value → Prop} (u : ∀ {ys}, Rl μ ys x0 → A ys) (z : P.underlying t = some (.slice e')) (he : ∀ w, (sizeOf e').run P w = .ok k w) (G : je E x = v) (r : je E m = .int I i) (h : kd e Rl k μ v l B) (n : 0 ≤ i) (s : l[i.toNat]? = some x0) :
  ∃ p, (∃ ys, A ys ∧ At (zK B) p ys ∧ xv B k p i.toNat) ∧ ∀ W, kH P E ⟨d, .indexAddr t x m, ty, pos, af, g⟩ W p W := by
 obtain ⟨cl, h1, o⟩ := h
 obtain ⟨c, j, y⟩ := o.get s
 obtain ⟨p, b, q⟩ := pX (d := d) (ty := ty) (pos := pos) (af := af) (g := g) z he G r h1 n j
 exact ⟨p, ⟨c.1, u y, b.at h1 wN j, b⟩, q⟩
theorem K9 {α g : Type} {b : Nat} {l m r : List α} {c d : List g} (h : kN b l m = some r) (h1 : c.length = l.length) (i : d.length = m.length) : kN b c d = some (c ++ d) ∧ r = l ++ m := by
 unfold kN at h ⊢
 rw [h1, i]
 split at h
 ·rename_i j; cases h; rw [aW j]; exact ⟨rfl, rfl⟩
 ·cases h
theorem tZ {K : Value → World → Prop} {t : TypeId} {b : Nat} {z vs : Value} {m r : List β} {Y : List (Nat × Obj)} {x y : Operand} {i : TypeInfo} (hD : Deep Rl k) (j : ST dd F w W μ (B ++ Y)) (p : 0 < k) (Q : P.underlying t = some (.slice e)) (M : P.info? e = some i) (U : i.zero = some z) (s : z.cells.size = k) (q : i.size = k) (o : i.bytes = b) (R : je E x = v) (T : je E y = vs) (J : kd e Rl k μ v l B) (O : zp Rl k μ W vs m) (L : kN b l m = some r) (h : ∀ W' c R', ST dd F w W' μ (R' ++ Y) → kd e Rl k μ c r R' → K c W') : ma P E ⟨d, .call ⟨.builtin .append, #[x, y], #[t, t]⟩, ty, pos, af, g⟩ W K := by
 obtain ⟨cl, h1, u⟩ := J
 obtain ⟨Z, I, A⟩ := O
 obtain ⟨n, rfl⟩ := K9 L u.length A.length
 exact nL j wN p LS Q M U s q o R T h1 I n (fun W' c R' G a2 => h W' c R' G ⟨_, a2, u.append A⟩)
theorem pc {K : Value → World → Prop} {Y : List (Nat × Obj)} {t : TypeId} {x y : Operand} {p : Value} {i : Nat} {x0 x1 : β} {ys : List Value} (o : Deep Rl k) (b : ST dd F w W μ (B ++ Y)) (h : kd e Rl k μ v l B) (z : je E x = p) (A : je E y = .agg ys.toArray) (m : Rl μ ys x1) (hp : xv B k p i) (u : l[i]? = some x0) (r : ∀ w, (sizeOf t).run P w = .ok k w) (q : ∀ W' R', ST dd F w W' μ (R' ++ Y) → kd e Rl k μ v (l.set i x1) R' → K undef W') : ma P E ⟨d, .store t x y, ty, pos, af, g⟩ W K := by
 obtain ⟨cl, h1, j⟩ := h
 obtain ⟨c, s, _⟩ := j.get u
 exact AN (x1 := o.cell m) b h1 wN LS z A rfl hp s r (fun W' R' n a2 => q W' R' n ⟨_, a2, j.set m i⟩)
end
end Go.Proofs.YtjjjihkifgdhgaaGreatDoor
namespace Go.Proofs.YtjjjihkifgdhgaaGreatDoor
open Go.RowKit
def lj (dd : Bool) (P : Program) (f : FuncId) (args : List Value) (w : World) (μ0 : jx) (L0 : List (Nat × Obj)) (K : Value → List (Nat × Obj) → jx → Prop) : Prop :=
 Calls P f args.toArray w fun e b => ∃ v L1 μ1, e = .returned v ∧ rr dd L0 L1 w b ∧ jC μ0 μ1 ∧ Lo (keys L0) w μ0 μ1 ∧ jC μ1 (rU b L1) ∧ K v L1 μ1
theorem lj.lI {dd : Bool} {P : Program} {f : FuncId} {args : List Value} {w : World} {μ0 : jx} {L0 : List (Nat × Obj)} {K : Value → List (Nat × Obj) → jx → Prop} (h : lj true P f args w μ0 L0 K) : lj dd P f args w μ0 L0 K :=
 cR h fun _ _ ⟨v, L1, μ1, h1, b, c⟩ => ⟨v, L1, μ1, h1, b.lI, c⟩
section
variable {dd : Bool} {F : Nat → Prop} {w W W' : World} {μ μ1 : jx} {L L0 L1 L2 : List (Nat × Obj)}
theorem ST.OM (h : ST dd F w W μ (L0 ++ L)) (i : rr dd L0 L1 W W') (j : Lo (keys L0) W μ μ1) (g : jC μ1 (rU W' L1)) : ST dd F w W' μ1 (L1 ++ L) := by
 have h1 := h.back i
 refine ⟨h1.os, h1.tape, h1.output, h1.drawn, h1.size, h1.kO, fun b o hm => ?_, fun b o c => ?_, h1.nd⟩
 ·have := g b o hm
  unfold rU at this
  split at this
  ·cases this
  ·exact this
 ·obtain ⟨l, n, m⟩ := h1.box b o c
  refine ⟨l, ?_, m⟩
  rcases aO.1 c with c | c
  ·cases hm : μ1 b with
   | none => rfl
   | some x =>
    have := g b x hm
    unfold rU at this
    rw [aW ⟨o, c⟩] at this
    cases this
  ·have d := h.box b o (dI _ c)
   rw [j b (mR d.1) (CH h.nd c)]
   exact d.2.1
variable {P : Program} {E : Nat → Value} {d : Option Nat} {ty : TypeId} {pos : String} {af : Array Edge} {g : Option (Nat × Bool)}
theorem LP {K : Value → World → Prop} {K' : Value → List (Nat × Obj) → jx → Prop} {f : FuncId} {fv : Operand} {ax : Array Operand} {ats : Array TypeId} {i : Array Value} {args : List Value} (L0 L2 : List (Nat × Obj)) (c : ST dd F w W μ L) (j : L.Perm (L0 ++ L2)) (y : je E fv = .func (.func f) #[] i) (he : ∀ args w, (callFunc f args).run P w = .ok (.enter f args) w) (ha : ax.map (je E) ++ (#[] : Array Value) = args.toArray) (x : BU L0 W → (L0.map (·.1)).Nodup → jC μ (rU W L0) → (∀ b o, (b, o) ∈ L2 → rU W L0 b = some o) → lj dd P f (args ++ i.toList) W μ L0 K') (h : ∀ W' v μ' L1, ST dd F w W' μ' (L1 ++ L2) → jC μ μ' → Lo F w μ μ' → K' v L1 μ' → K v W') : ma P E ⟨d, .call ⟨.value fv, ax, ats⟩, ty, pos, af, g⟩ W K := by
 have l : ax.map (je E) = args.toArray := by simpa using ha
 refine CG (args := (args ++ i.toList).toArray) y he (by rw [l]; simp) (cR (x (c.held j) (c.On j) (c.Oc j) (c.Ip j)) (fun _ W' ⟨v, L1, μ1, h1, n, p, m, r, s⟩ => ⟨v, h1, h W' v μ1 L1 ((c.perm j).OM n m r) p (fun b u t => m b (dM u c.size) (fun ⟨o, z⟩ => by
  rcases ((c.perm j).box b o (cA _ z)).2.2 with q | q
  ·omega
  ·exact t q)) s⟩))
end
theorem oV.zB {κ γ : Type} {kenc : κ → Value} {Q : Value → γ → List (Nat × Obj) → Prop} {μ : jx} {v : Value} {l : List (κ × γ)} (h : oV kenc Q μ v l) : v.oneCell' = true := by
 obtain ⟨b, R, h, _⟩ := h
 obtain ⟨m, rfl⟩ := h.form
 rfl
theorem tN.zB {κ β : Type} {kenc : κ → Value} {vf : β → Value} {μ : jx} {v : Value} {l : List (κ × β)} (h : tN kenc vf μ v l) : v.oneCell' = true := by
 obtain ⟨m, rfl⟩ := h.form
 rfl
variable [M : Md]
section
variable {dd : Bool}
def yW {α : Type} (R : oF α) : jx → List Value → α → Prop := fun μ vs x => ∃ ys, vs = [.agg ys.toArray] ∧ R μ ys x
def sU {α β : Type} (R : oF α) (S : oF β) : jx → List Value → α × β → Prop := fun μ vs x => ∃ ys zs, vs = [.agg ys.toArray, .agg zs.toArray] ∧ R μ ys x.1 ∧ S μ zs x.2
theorem yW.mk {α : Type} {R : oF α} {k : Nat} {μ μ' : jx} {ys : List Value} {x : α} (b : Deep R k) (h : R μ ys x) (c : jC μ μ') : yW R μ' [.agg ys.toArray] x := ⟨ys, rfl, b.mono _ _ _ _ c h⟩
theorem sU.mk {α β : Type} {R : oF α} {S : oF β} {k m : Nat} {μ μ' : jx} {ys zs : List Value} {x : α} {y : β} (d : Deep R k) (g : Deep S m) (h : R μ ys x) (c : S μ zs y) (b : jC μ μ') : sU R S μ' [.agg ys.toArray, .agg zs.toArray] (x, y) :=
 ⟨ys, zs, rfl, d.mono _ _ _ _ b h, g.mono _ _ _ _ b c⟩
def uW {α β : Type} (P : Program) (fv : Value) (μ : jx) (c : jx → List Value → α → Prop) (d : β → Value) (pm : α → Option β) : Prop :=
 ∃ f first b, fv = .func (.func f) first b ∧ (∀ args w, (callFunc f args).run P w = .ok (.enter f args) w) ∧ ∀ W x vs r, jC μ (hp W) → c (hp W) vs x → pm x = some r → jO false P f (first.toList ++ (vs ++ b.toList)) W (d r)
theorem uW.form {α β : Type} {P : Program} {fv : Value} {μ : jx} {c : jx → List Value → α → Prop} {d : β → Value} {pm : α → Option β} (h : uW P fv μ c d pm) : ∃ f a b, fv = .func f a b := let ⟨f, a, b, h, _⟩ := h; ⟨_, a, b, h⟩
end
section
variable {P : Program} {W : World} {E : Nat → Value} {d : Option Nat} {ty : TypeId} {pos : String} {af : Array Edge} {g : Option (Nat × Bool)} {F : Nat → Prop} {w : World} {μ μ0 : jx} {L : List (Nat × Obj)}
theorem uW.mono {α β : Type} {fv : Value} {c : jx → List Value → α → Prop} {d : β → Value} {pm : α → Option β} (h : uW P fv μ c d pm) (j : jC μ μ0) : uW P fv μ0 c d pm := by
 obtain ⟨f, first, b, h1, g, i⟩ := h
 exact ⟨f, first, b, h1, g, fun W x vs r h => i W x vs r (j.trans h)⟩
theorem wx {α β : Type} {K : Value → World → Prop} {fv : Value} {l : jx → List Value → α → Prop} {m : β → Value} {pm : α → Option β} {i : Operand} {ax : Array Operand} {ats : Array TypeId} (x : α) {vs : List Value} {r : β} (c : ST false F w W μ L) (t : uW P fv μ0 l m pm) (v : jC μ0 μ) (s : l (hp W) vs x) (u : je E i = fv) (ha : ax.map (je E) ++ (#[] : Array Value) = vs.toArray) (hm : pm x = some r) (h : ∀ W', ST false F w W' μ L → K (m r) W') : ma P E ⟨d, .call ⟨.value i, ax, ats⟩, ty, pos, af, g⟩ W K := by
 obtain ⟨f, first, b, rfl, n, o⟩ := t
 have j : ax.map (je E) = vs.toArray := by simpa using ha
 refine .inr (.inr ⟨f, (first.toList ++ (vs ++ b.toList)).toArray, ?_, cR (o W x vs r (v.trans c.jk) s hm) (fun _ _ ⟨p, q⟩ => ⟨_, p, h _ (c.Ew q)⟩)⟩)
 show (do let d ← resolve (je E) ⟨.value i, ax, ats⟩ ty; invoke d.target d.args : Sem Next).run P W = _
 simp only [resolve, u, Deferred.ofValue, bY, cW, bK, invoke, j, n]
 congr 2
 simp
end
section
variable {dd : Bool}
variable {β : Type} {Rl : oF β} {k : Nat} {μ : jx} {v : Value} {l : List β} {e : TypeId} {B : List (Nat × Obj)}
variable {F : Nat → Prop} {w W : World} {L : List (Nat × Obj)}
variable {P : Program} {E : Nat → Value} {d : Option Nat} {ty : TypeId} {pos : String} {af : Array Edge} {g : Option (Nat × Bool)}
theorem Hi {α : Type} {enc : α → List Value} (hk : ∀ x, (enc x).length = k) (c : 0 < k) (d : ∀ x y, enc x = enc y → x = y) : ∀ {l m : List α}, (l.map enc).flatten = (m.map enc).flatten → l = m
 | [], [], _ => rfl
 | [], b :: m, h => by
  have := bA List.length h
  simp only [eo, cV, bN, bI, bH, aC, hk] at this
  omega
 | a :: l, [], h => by
  have := bA List.length h
  simp only [eo, cV, bN, bI, bH, aC, hk] at this
  omega
 | a :: l, b :: m, h => by
  simp only [bI, bH] at h
  obtain ⟨h1, g⟩ := List.append_inj h (by rw [hk, hk])
  rw [d _ _ h1, Hi hk c d g]
theorem PS (x y : uA k) (h : sS x = sS y) : x = y := Subtype.ext h
theorem jw.pre {v1 : Value} {cl b : List (uA k)} (g : 0 < k) (h : jw e sS k v cl B) (h1 : jw e sS k v1 b B) (d : b.length ≤ cl.length) : b = cl.take b.length := by
 rcases h with ⟨rfl, rfl, rfl⟩ | ⟨q, cap, c, rfl, rfl, r, s, t, o⟩
 ·simp at d; simp [d]
 ·rcases h1 with ⟨_, _, h⟩ | ⟨g1, i, j, rfl, l, p, a2, a3, a4⟩
  ·cases h
  ·cases l
   refine Hi wN g PS ?_
   rw [← a4]
   have hle : b.length * k ≤ cl.length * k := cI _ d
   have : c.toList.take (b.length * k) = (c.toList.take (cl.length * k)).take (b.length * k) := by rw [fR, dw hle]
   rw [this, o]
   have m : (cl.map sS).flatten = ((cl.take b.length).map sS).flatten ++ ((cl.drop b.length).map sS).flatten := by rw [← cE, ← bV, gj]
   have n : ((cl.take b.length).map sS).flatten.length = b.length * k := by rw [oy wN, cP, dw d]
   rw [m, ← n, fW]
theorem nU.replicate {α β : Type} {Q : α → β → Prop} {a : α} {b : β} (h : Q a b) : ∀ n, nU Q (List.replicate n a) (List.replicate n b)
 | 0 => .nil
 | n + 1 => .cons h (nU.replicate h n)
theorem nU.PR {α β : Type} {Q : α → β → Prop} {l : List α} {m : List β} (h : nU Q l m) {a : α} {b : β} (c : Q a b) (i : Nat) : nU Q (nv l i a) (nv m i b) := by
 unfold nv
 rw [h.length]
 exact (h.take i).append (nU.replicate c _)
theorem Es {t e' : TypeId} {x ih : Operand} {s : IntKind} {i : Int} (q : P.underlying t = some (.slice e')) (he : ∀ w, (sizeOf e').run P w = .ok k w) (r : je E x = v) (o : je E ih = .int s i) (h : kd e Rl k μ v l B) (j : 0 ≤ i) (p : i ≤ l.length) :
  ∃ b, kd e Rl k μ b (l.take i.toNat) B ∧ ∀ W, kH P E ⟨d, .slice t x none (some ih) none, ty, pos, af, g⟩ W b W := by
 obtain ⟨cl, h1, c⟩ := h
 obtain ⟨b, m, n⟩ := zu (d := d) (ty := ty) (pos := pos) (af := af) (g := g) q he r o h1 wN j (by rw [c.length]; exact p)
 exact ⟨b, ⟨_, m, c.take _⟩, n⟩
theorem yN {t e' : TypeId} {x b : Operand} {q : IntKind} {i : Int} (o : P.underlying t = some (.slice e')) (he : ∀ w, (sizeOf e').run P w = .ok k w) (p : je E x = v) (m : je E b = .int q i) (h : kd e Rl k μ v l B) (c : 0 ≤ i) (n : i ≤ l.length) :
  ∃ u, yj k v i.toNat u ∧ ∀ W, kH P E ⟨d, .slice t x (some b) none none, ty, pos, af, g⟩ W u W := by
 obtain ⟨cl, h1, j⟩ := h
 exact xn o he p m h1 c (by rw [j.length]; exact n)
theorem I3 {t e' : TypeId} {x : Operand} {u : Value} {i : Nat} (c : P.underlying t = some (.slice e')) (j : je E x = u) (hu : yj k v i u) (h : kd e Rl k μ v l B) : kH P E ⟨d, .call ⟨.builtin .len, #[x], #[t]⟩, ty, pos, af, g⟩ W (.int .i64 ((l.length - i : Nat) : Int)) W := by
 obtain ⟨cl, h1, b⟩ := h
 rw [← b.length]
 exact FJ c j hu h1
theorem yF {t e' : TypeId} {x m : Operand} {L : IntKind} {i : Int} {x0 : β} {u : Value} {o : Nat} {A : List Value → Prop} (z : ∀ {ys}, Rl μ ys x0 → A ys) (I : P.underlying t = some (.slice e')) (he : ∀ w, (sizeOf e').run P w = .ok k w) (J : je E x = u) (s : je E m = .int L i) (h : kd e Rl k μ v l B) (hu : yj k v o u) (n : 0 ≤ i) (y : (l.drop o)[i.toNat]? = some x0) :
  ∃ p, (∃ ys, A ys ∧ At (zK B) p ys ∧ xv B k p (o + i.toNat)) ∧ ∀ W, kH P E ⟨d, .indexAddr t x m, ty, pos, af, g⟩ W p W := by
 obtain ⟨cl, h1, q⟩ := h
 obtain ⟨c, j, G⟩ := (q.drop o).get y
 obtain ⟨p, b, r⟩ := xu (d := d) (ty := ty) (pos := pos) (af := af) (g := g) I he J s h1 hu n j
 exact ⟨p, ⟨c.1, z G, b.at h1 wN (yL j), b⟩, r⟩
theorem BH {K : Value → World → Prop} {z : β} {zs : List Value} {Y : List (Nat × Obj)} {t e' : TypeId} {x : Operand} {u j : Value} {i : Nat} (o : Deep Rl k) (c : ST dd F w W μ (B ++ Y)) (h : kd e Rl k μ v l B) (b : Rl μ zs z) (r : P.underlying t = some (.slice e')) (y : ∀ w, (zeroValue e').run P w = .ok j w) (hu : yj k v i u) (q : j.cells = zs.toArray) (s : je E x = u) (p : ∀ W' R', ST dd F w W' μ (R' ++ Y) → kd e Rl k μ v (nv l i z) R' → K (.tuple #[]) W') : ma P E ⟨d, .call ⟨.builtin .clear, #[x], #[t]⟩, ty, pos, af, g⟩ W K := by
 obtain ⟨cl, h1, n⟩ := h
 exact Af (o.cell b) c h1 wN LS r y hu q s (fun W' R' m a2 => p W' R' m ⟨_, a2, n.PR b i⟩)
end
section
variable {P : Program} {W : World} {E : Nat → Value} {d : Option Nat} {ty : TypeId} {pos : String} {af : Array Edge} {g : Option (Nat × Bool)}
theorem Ky {tx tv : TypeId} {x y : Operand} {fv : Value} {s u : Array TypeId} {bb : Bool} (i : P.underlying tx = some (.func s u bb)) (h : ∃ f a b, fv = .func f a b) (j : je E x = fv) (l : je E y = .nilFunc) :
  kH P E ⟨d, .binOp .neq tx x y tv, ty, pos, af, g⟩ W (.bool true) W := by
 obtain ⟨f, a, b, rfl⟩ := h
 show (do let r ← (do eqGuard .neq tx x y (je E x) (je E y); binOp .neq tx (je E x) (je E y)); pure (.value r) : Sem Next).run P W = _
 rw [j, l]
 have c := Ds 9999 i f a b W
 simp [eqGuard, binOp, Op.equal, show Op.maxDepth = 9999 + 1 from rfl, c]
end
end Go.Proofs.YtjjjihkifgdhgaaGreatDoor
