/- a part of a proof of LintFinds -/
import Derived.WalkKit
import Derived.WalkLawsBesides
import Derived.TacticsIn
import Derived.OrdersIn
import Derived.ControlIn
import Derived.Maps.AppendAt
import Derived.OrdersHeld
import Derived.Laws.IdiomStrings
import Derived.Maps.RangeRun
import Derived.Lib.BytesEntry
import Derived.Lib.Bytealg
import Derived.Laws.Externs
import Derived.ChangeKeysEq
import Derived.Deep.AppendSrc
import Derived.Laws.MakeOwn
set_option linter.all false
namespace Go.Proofs.YtjjjihkifgdhgaaGreatDoor
open Go.RowKit
def aA := @Option.bind_some
def aB := @Bool.false_eq_true
def aF := @List.length_append
def aG := @Int.natCast_nonneg
def aH := @List.drop_length
def aI := @List.length_cons
def aJ := @if_false
def aN := @List.append_assoc
def aO := @if_true
def aQ := @List.mem_cons
def aT := @Nat.exists_eq_succ_of_ne_zero
def aU := @List.mem_append
def aV := @List.eq_nil_of_length_eq_zero
def aW := @Nat.le_refl
def aX := @Bool.and_eq_true
def aY := @run_underlying
def aZ := @List.cons.injEq
def bn := @beq_self_eq_true
def bo := @if_neg
def bA := @List.append_nil
def bB := @if_pos
def bD := @congrArg
def bE := @List.nil_append
def bH := @List.getElem?_eq_some_iff
def bI := @Nat.lt_succ_self
def bJ := @List.map_cons
def bK := @decide_eq_true_eq
def bL := @Bool.eq_iff_iff
def bM := @List.mem_map
def bO := @List.flatten_cons
def bP := @List.cons_append
def bQ := @Result.andThen_ok
def bR := @List.length_nil
def bV := @List.mem_singleton
def bW := @List.Perm.refl
def bY := @List.nodup_append
def cA := @decide_true
def cC := @Bool.not_true
def cD := @List.Perm.append_left
def cE := @List.map_append
def cH := @Sem.run_bind
def cI := @decide_false
def cJ := @List.pairwise_cons
def cK := @List.mem_append_left
def cN := @Bool.not_false
def cO := @List.flatten_append
def cP := @Nat.add_mul
def cQ := @Nat.mul_le_mul_right
def cV := @List.pairwise_append
def cW := @List.not_mem_nil
def cZ := @List.mem_filter
def dm := @List.mem_of_getElem?
def dp := @List.length_take
def dq := @List.length_map
def dr := @Calls.mono
def du := @List.eq_nil_or_concat
def dx := @List.nodup_cons
def dy := @List.flatten_nil
def dz := @Sem.run_pure
def dA := @List.getElem?_take_of_lt
def dC := @and_true
def dD := @Addr.add_lit
def dE := @Array.length_toList
def dF := @Array.getElem?_eq_some_iff
def dH := @List.size_toArray
def dJ := @Int.toNat_natCast
def dK := @Bool.true_and
def dL := @Nat.le_trans
def dM := @List.take_of_length_le
def dO := @Nat.min_eq_left
def dP := @List.getElem?_eq_getElem
def dQ := @List.filter_cons
def dS := @Array.getElem?_modify
def dT := @Array.getElem?_toList
def dU := @List.concat_eq_append
def dV := @DataW.trod_struct
def dW := @List.getElem?_drop
def dX := @Nat.zero_add
def dY := @List.mem_append_right
def dZ := @ByteArray.size_append
def ed := @Bool.eq_false_or_eq_true
def ee := @Nat.lt_of_lt_of_le
def ef := @Nat.eq_zero_or_pos
def ei := @List.length_eq_zero_iff
def ej := @List.any_eq_true
def ek := @List.findIdx?_eq_some_iff_getElem
def eo := @Nat.add_assoc
def et := @Option.map_some
def eu := @List.perm_append_comm
def ev := @List.all_eq_true
def ew := @List.length_zipIdx
def ey := @List.sum_cons
def ez := @Nat.zero_le
def eB := @List.ext_getElem?
def eC := @List.getElem?_map
def eE := @Array.getD_eq_getD_getElem?
def eF := @List.map_nil
def eG := @List.map_map
def eP := @List.perm_middle
def eQ := @List.getElem?_append_right
def eS := @List.findIdx?_cons
def eT := @List.length_filter_le
def eU := @Classical.byContradiction
def eV := @List.getElem?_set
def eW := @List.mem_cons_of_mem
def eX := @or_false
def fa := @ByteArray.toList_eq
def fc := @List.take_append
def fh := @Bool.false_and
def fi := @cell_of_row
def fj := @List.getElem?_take
def fq := @Bool.or_eq_true
def fw := @List.any_cons
def fz := @List.singleton_append
def fA := @List.getElem?_eq_none
def fB := @Function.comp_def
def fC := @List.pairwise_map
def fD := @List.perm_append_comm_assoc
def fE := @Bool.not_eq_true'
def fF := @List.getElem?_append
def fH := @List.perm_append_singleton
def fI := @List.length_drop
def fL := @Bool.not_eq_true
def fM := @List.getElem?_append_left
def fN := @List.findIdx?_eq_none_iff
def fO := @List.Perm.nodup_iff
def fP := @run_callFunc_extern
def fQ := @List.filter_eq_self
def fR := @ByteArray.ext
def fU := @List.foldl_cons
def fV := @List.find?_cons
def fW := @Option.some.inj
def fY := @grownCap_le_maxLen
def fZ := @beq_iff_eq
def ga := @eq_iff_iff
def gb := @List.find?_eq_none
def gd := @List.getElem?_cons_zero
def gh := @List.pairwise_mergeSort
def gi := @List.pairwise_singleton
def gj := @List.take_take
def gk := @List.findIdx?_map
def gl := @Nat.add_zero
def gm := @Option.some.injEq
def gn := @List.Perm.append_right
def gp := @List.take_left
def gq := @Go.Lib.strCells_length
def gx := @Bool.and_assoc
def gy := @Bool.not_not
def gz := @List.flatMap_cons
def gA := @List.getElem?_toArray
def gB := @List.take_append_drop
def gC := @Option.getD_some
def gF := @List.all_cons
def gG := @List.findIdx?_append
def gI := @List.forall_mem_cons
def gL := @List.length_set
def gN := @List.filter_nil
def gO := @Array.toList_append
def gP := @List.mergeSort_perm
def gQ := @List.flatMap_append
def gS := @List.take_length_add_append
def gY := @run_loadCells_list
def gZ := @List.drop_take
def ib := @List.map_replicate
def ic := @size_zeroCells
def ie := @List.map_mergeSort
def iu := @run_equalIn_struct
def iw := @List.filter_append
def iy := @UInt8.toNat_lt
def iz := @Nat.le_succ
def iA := @run_storeCells_at
def iB := @Array.size_append
def iC := @Nat.mul_one
def iK := @UInt8.ofNat_toNat
def iL := @List.find?_append
def iM := @of_decide_eq_true
def iP := @Bool.and_self
def iQ := @List.mem_flatten
def iR := @List.zipIdx_cons
def iW := @List.mem_flatMap
def iX := @callsIn_wide
def jd := @Oper.upon_value
def je := @Oper.upon_enter
def jh := @grownCap_ge
def ji := @Nat.one_mul
def jj := @getD_set_ne
def jl := @wpIn_mono
def jm := @mem_ready
class Md where
 ro : Option Nat
 D : List Deferred
instance AH : Md := ⟨none, []⟩
theorem yP {ro : Option Nat} {P : Program} {ρ : Operand → Value} {o : Oper} {W W' : World} {x : Next} (h : (execOp ρ o).run P W = .ok x W') (i : ∀ d, x ≠ .defer d) : (Oper.semAt ro ρ o).run P W = .ok x W' := by
 cases ro with
 | none => exact h
 | some l =>
  rw [Oper.semAt_eq]
  ·exact h
  ·intro c g
   have e : (execOp ρ o) = (resolve ρ c o.type >>= fun d => pure (Next.defer d)) := by
    unfold execOp; rw [g]
   rw [e, cH] at h
   cases b : (resolve ρ c o.type).run P W with
   | ok d w => rw [b, bQ] at h; cases h; exact i d rfl
   | halt z w => rw [b] at h; cases h
def Md.F (M : Md) : Fence := { Fence.wide with round := M.ro }
theorem Na {M : Md} {n : Nat} {P : Program} {f : FuncId} {args : Array Value} {w : World} {R : Ending → World → Prop} : CallsIn M.F n P f args w R ↔ Calls P f args w R := iX
theorem HE {M : Md} {n : Nat} {P : Program} {f : FuncId} {args : Array Value} {w : World} {R : Ending → World → Prop} (h : Calls P f args w R) : (M.F.depth.isSome = true → 1 ≤ n) ∧ CallsIn M.F (n - 1) P f args w R :=
 ⟨fun e => (nomatch (show (none : Option Nat).isSome = true from e)), Na.2 h⟩
variable [M : Md]
def nO (E : Nat → Value) (d : Nat) (v : Value) : Nat → Value := fun t => if t = d then v else E t
def jH (E : Nat → Value) : Operand → Value
 | .tmp t => E t
 | .const v => v
 | .global g => .pointer (some ⟨g, 0, none⟩)
 | .func f => .func (.func f) #[] #[]
def Ag (n : Nat) (a : Act) (E : Nat → Value) : Prop := a.tmps.size = n ∧ a.defers = M.D ∧ ∀ t, a.tmps.getD t undef = E t
section
variable {n : Nat} {a : Act} {E : Nat → Value}
theorem Ag.eval (h : Ag n a E) : a.eval = jH E := by
 funext x
 cases x with
 | tmp t => exact h.2.2 t
 | const v => rfl
 | global g => rfl
 | func f => rfl
theorem Ag.put (h : Ag n a E) {d : Nat} (i : d < n) (v : Value) : Ag n (a.put (some d) v) (nO E d v) := by
 refine ⟨by simp [Act.put, h.1], h.2.1, fun t => ?_⟩
 have g := h.2.2 t
 simp only [Act.put, nO]
 by_cases b : t = d
 ·subst b
  simp [h.1, i]
 ·have : ¬ d = t := fun e => b e.symm
  rw [bo b, ← g]
  simp [eE, this]
theorem Ag.yX (h : Ag n a E) (v : Value) : Ag n (a.put none v) E := h
theorem Ag.yield (h : Ag n a E) {ops : Array Oper} {j t : Nat} {b : Bool} (g : (ops[j]?).bind (·.dst) = some t) (l : t < n) (m : E t = .bool b) : yielded ops a.tmps j = some b := by
 have d := h.2.2 t
 have i : a.tmps[t]? = some (E t) := by
  rw [← d]
  simp [eE, h.1, l]
 simp [yielded, g, i, m]
end
abbrev py := Exit → (Nat → Value) → World → Prop
def E0 : Nat → Value := fun _ => undef
def lift (n : Nat) (Q : py) : Exit → Act → World → Prop
 | .panic c, a, w => a.defers = M.D ∧ Q (.panic c) E0 w
 | .outgrown, _, _ => False
 | e, a, w => ∃ E, Ag n a E ∧ Q e E w
theorem Jk {n : Nat} {Q : py} {c : List PanicEntry} {a : Act} {d : Option Nat} {v : Value} {w : World} (h : lift n Q (.panic c) (a.put d v) w) : lift n Q (.panic c) a w := by
 cases d <;> exact h
def CW (P : Program) (n : Nat) (c : Code) (Q : py) (E : Nat → Value) (W : World) : Prop := ∀ a, Ag n a E → c.wpIn M.F 0 P (lift n Q) a W
def LW (P : Program) (n : Nat) (ops : Array Oper) (Q : py) (l : List Oper) (E : Nat → Value) (W : World) : Prop := ∀ a, Ag n a E → wpListIn M.F 0 P ops (lift n Q) l a W
def qj (K : (Nat → Value) → World → Prop) (Q : py) : py
 | .normal, E, W => K E W
 | e, E, W => Q e E W
def vZ (id : Nat) (Q : py) : py
 | .exit j, E, W => if j = id then Q .normal E W else Q (.exit j) E W
 | e, E, W => Q e E W
section
variable {P : Program} {n : Nat} {Q : py} {E : Nat → Value} {W : World} {c x y : Code} {ops : Array Oper} {rest : List Oper} {o : Oper}
theorem Hq {Q' : py} (h : CW P n c Q E W) (g : ∀ e E W, Q e E W → Q' e E W) : CW P n c Q' E W := fun a ha =>
 jl (h a ha) (fun e _ _ h => by
  cases e with
  | panic c => exact ⟨h.1, g _ _ _ h.2⟩
  | outgrown => exact h
  | _ => obtain ⟨E', b, d⟩ := h; exact ⟨E', b, g _ _ _ d⟩)
theorem jI (h : CW P n x (qj (fun E W => CW P n y Q E W) Q) E W) : CW P n (.seq x y) Q E W := fun a ha =>
 wpIn_seq (jl (h a ha) (fun e d i h => by
  cases e with
  | normal => obtain ⟨E', b, g⟩ := h; exact g d b
  | _ => exact h))
theorem kG (h : Q .normal E W) : CW P n .skip Q E W := fun _ ha => wpIn_skip ⟨E, ha, h⟩
theorem jZ (h : Q .ret E W) : CW P n .ret Q E W := fun _ ha => wpIn_ret ⟨E, ha, h⟩
theorem na {id : Nat} (h : Q (.exit id) E W) : CW P n (.exit id) Q E W := fun _ ha => wpIn_exit ⟨E, ha, h⟩
theorem lA {id : Nat} (h : CW P n c (vZ id Q) E W) : CW P n (.block id c) Q E W := fun a ha =>
 wpIn_block (jl (h a ha) (fun e i l h => by
  cases e with
  | exit j =>
   obtain ⟨E', b, d⟩ := h
   simp only [Exit.inBlock]
   simp only [vZ] at d
   split at d
   ·rename_i g; rw [bB g]; exact ⟨E', b, d⟩
   ·rename_i g; rw [bo g]; exact ⟨E', b, d⟩
  | _ => exact h))
theorem Mn {co : Operand} {b : Bool} (d : jH E co = .bool b) (i : b = true → CW P n x Q E W) (g : b = false → CW P n y Q E W) : CW P n (.cond co x y) Q E W := fun a ha => by
 refine wpIn_cond_split (t := b) (by rw [ha.eval]; exact d) (fun h => i h a ha) (fun h => g h a ha)
theorem wy {co : Operand} (b : jH E co = .bool true) (h : CW P n x Q E W) : CW P n (.cond co x y) Q E W := Mn b (fun _ => h) (fun h => by cases h)
theorem ql {co : Operand} (b : jH E co = .bool false) (h : CW P n y Q E W) : CW P n (.cond co x y) Q E W := Mn b (fun h => by cases h) (fun _ => h)
theorem jG {id : Nat} {l : List Oper} (h : LW P n l.toArray Q l E W) : CW P n (.region id l.toArray false) Q E W := fun a ha => wpIn_region_lit (h a ha)
theorem jU (h : Q .normal E W) : LW P n ops Q [] E W := fun _ ha => wpListIn_nil ⟨E, ha, h⟩
theorem GZ {P : Program} {F : Fence} {n : Nat} {c : Code} {Q : Exit → Act → World → Prop} {a : Act} {w : World} (I : Nat → Act → World → Prop) (m : Nat) (j : I m a w) (round : ∀ m a w, I m a w → c.wpIn F n P (Exit.then (fun l p => ∃ g, g < m ∧ I g l p) Q) a w) : (Code.loop c).wpIn F n P Q a w := by
 classical
 let J : Act → World → Prop := fun a w => ∃ m, I m a w
 have least : ∀ a w, J a w → ∃ m, I m a w ∧ ∀ k, I k a w → m ≤ k := fun a w ⟨m, hm⟩ => by
  induction m using Nat.strongRecOn with
  | _ m ih =>
   by_cases h : ∃ k, k < m ∧ I k a w
   ·obtain ⟨k, hk, b⟩ := h; exact ih k hk b
   ·exact ⟨m, hm, fun k b => Nat.le_of_not_lt fun d => h ⟨k, d, b⟩⟩
 let μ : Act → World → Nat := fun a w => if h : J a w then Classical.choose (least a w h) else 0
 have i : ∀ a w (h : J a w), I (μ a w) a w ∧ ∀ k, I k a w → μ a w ≤ k := fun a w h => by
  have e : μ a w = Classical.choose (least a w h) := dif_pos h
  rw [e]; exact Classical.choose_spec (least a w h)
 refine wpIn_loop J μ ⟨m, j⟩ fun a w q => jl (round _ a w (i a w q).1) fun e l p h => ?_
 cases e with
 | normal => obtain ⟨g, d, b⟩ := h; exact ⟨⟨g, b⟩, Nat.lt_of_le_of_lt ((i l p ⟨g, b⟩).2 g b) d⟩
 | _ => exact h
theorem nc (I : Nat → (Nat → Value) → World → Prop) (m : Nat) (b : I m E W) (round : ∀ m E W, I m E W → CW P n c (qj (fun E' W' => ∃ d, d < m ∧ I d E' W') Q) E W) : CW P n (.loop c) Q E W := fun a ha =>
 GZ (fun m a w => ∃ E, Ag n a E ∧ I m E w) m ⟨E, ha, b⟩ (fun m a w ⟨E, ha, l⟩ =>
  jl (round m E w l a ha) (fun e p q h => by
   cases e with
   | normal => obtain ⟨E', i, d, j, g⟩ := h; exact ⟨d, j, E', i, g⟩
   | _ => exact h))
def sC (n : Nat) (ops : Array Oper) (E : Nat → Value) (o : Oper) : Prop :=
 o.guard = none ∨ ∃ j want t, o.guard = some (j, want) ∧ (ops[j]?).bind (·.dst) = some t ∧ t < n ∧ E t = .bool want
theorem sC.of {a : Act} (h : sC n ops E o) (ha : Ag n a E) : Region.wanted o (yielded ops a.tmps) = true := by
 rcases h with h | ⟨j, want, t, d, g, i, b⟩
 ·simp [Region.wanted, h]
 ·simp [Region.wanted, d, ha.yield g i b]
theorem Nu {d : Nat} {v : Value} {W' : World} (hw : sC n ops E o) (b : o.dst = some d) (g : d < n) (i : (execOp (jH E) o).run P W = .ok (.value v) W') (h : LW P n ops Q rest (nO E d v) W') : LW P n ops Q (o :: rest) E W := fun a ha => by
 unfold wpListIn
 rw [bB (hw.of ha)]
 unfold Oper.wpIn
 refine ⟨fun _ _ => trivial, ?_⟩
 rw [ha.eval, yP i (by simp), Oper.uponIn_value, b]
 exact h _ (ha.put g v)
theorem Oi {W' : World} (hw : sC n ops E o) (b : o.dst = none) (d : (execOp (jH E) o).run P W = .ok .skip W') (h : LW P n ops Q rest E W') : LW P n ops Q (o :: rest) E W := fun a ha => by
 unfold wpListIn
 rw [bB (hw.of ha)]
 unfold Oper.wpIn
 refine ⟨fun _ _ => trivial, ?_⟩
 rw [ha.eval, yP d (by simp), Oper.uponIn_skip, b]
 exact h _ (ha.yX _)
theorem ON {f : FuncId} {args : Array Value} {d : Nat} (hw : sC n ops E o) (g : o.dst = some d) (j : d < n) (l : (execOp (jH E) o).run P W = .ok (.enter f args) W) (h : Calls P f args W fun e b => ∃ v, e = .returned v ∧ LW P n ops Q rest (nO E d v) b) : LW P n ops Q (o :: rest) E W := fun a ha => by
 unfold wpListIn
 rw [bB (hw.of ha)]
 unfold Oper.wpIn
 refine ⟨fun _ _ => trivial, ?_⟩
 rw [ha.eval, yP l (by simp), Oper.uponIn_enter]
 refine HE (dr h ?_)
 rintro e b ⟨v, rfl, i⟩
 simp only [g]
 exact i _ (ha.put j v)
theorem Sf {d j t : Nat} {want : Bool} (g : o.dst = some d) (m : d < n) (i : o.guard = some (j, want)) (l : (ops[j]?).bind (·.dst) = some t) (p : t < n) (b : E t = .bool (!want)) (h : LW P n ops Q rest (nO E d undef) W) : LW P n ops Q (o :: rest) E W := fun a ha => by
 unfold wpListIn
 have q := ha.yield l p b
 rw [bo (by simp [Region.wanted, i, q])]
 rw [g]
 exact ⟨fun _ _ => trivial, h _ (ha.put m _)⟩
end
end Go.Proofs.YtjjjihkifgdhgaaGreatDoor
namespace Go.Proofs.YtjjjihkifgdhgaaGreatDoor
open Go.RowKit
variable {dd : Bool}
abbrev kk := Nat → Option Obj
def hp (W : World) : kk := fun b => W.heap[b]?
def sO (dd : Bool) (a b : Nat) : Prop := dd = true → a ≤ b
theorem sO.of {dd : Bool} {a b : Nat} (h : a ≤ b) : sO dd a b := fun _ => h
theorem sO.trans {dd : Bool} {a b c : Nat} (h : sO dd a b) (k : sO dd b c) : sO dd a c := fun e => dL (h e) (k e)
structure Ex (dd : Bool) (w W : World) : Prop where
 os : W.os = w.os
 tape : W.tape = w.tape
 output : W.output = w.output
 drawn : sO dd w.drawn W.drawn
 size : w.heap.size ≤ W.heap.size
 lZ : ∀ b, b < w.heap.size → W.heap[b]? = w.heap[b]?
theorem Ex.refl (w : World) : Ex dd w w := ⟨rfl, rfl, rfl, sO.of (aW _), aW _, fun _ _ => rfl⟩
theorem Ex.trans {a b c : World} (h : Ex dd a b) (k : Ex dd b c) : Ex dd a c :=
 ⟨k.os.trans h.os, k.tape.trans h.tape, k.output.trans h.output, sO.trans h.drawn k.drawn, dL h.size k.size, fun i d => (k.lZ i (ee d h.size)).trans (h.lZ i d)⟩
theorem Ex.drew (w : World) : Ex dd w w.drew := ⟨rfl, rfl, rfl, sO.of (iz _), aW _, fun _ _ => rfl⟩
theorem Ex.alloc (w : World) (o : Obj) : Ex dd w (w.alloc o) := ⟨rfl, rfl, rfl, sO.of (aW _), by show w.heap.size ≤ (w.heap.push o).size; simp, fun k hk => Below.heap_alloc w o k hk⟩
theorem Ex.lz {w W : World} (h : Ex true w W) : Ex dd w W := ⟨h.os, h.tape, h.output, sO.of (h.drawn rfl), h.size, h.lZ⟩
def kf (μ μ' : kk) : Prop := ∀ b o, μ b = some o → μ' b = some o
theorem kf.refl (μ : kk) : kf μ μ := fun _ _ h => h
theorem kf.trans {a b c : kk} (h : kf a b) (k : kf b c) : kf a c := fun x o d => k x o (h x o d)
structure ST (dd : Bool) (F : Nat → Prop) (w W : World) (μ : kk) (L : List (Nat × Obj)) : Prop where
 os : W.os = w.os
 tape : W.tape = w.tape
 output : W.output = w.output
 drawn : sO dd w.drawn W.drawn
 size : w.heap.size ≤ W.heap.size
 lZ : ∀ b, b < w.heap.size → ¬ F b → W.heap[b]? = w.heap[b]?
 mem : ∀ b o, μ b = some o → W.heap[b]? = some o
 box : ∀ b o, (b, o) ∈ L → W.heap[b]? = some o ∧ μ b = none ∧ (w.heap.size ≤ b ∨ F b)
 nd : (L.map (·.1)).Nodup
def kp : Nat → Prop := fun _ => False
theorem ST.start (w : World) : ST dd kp w w (hp w) [] :=
 ⟨rfl, rfl, rfl, sO.of (aW _), aW _, fun _ _ _ => rfl, fun _ _ h => h, fun _ _ h => (by cases h), by simp⟩
section
variable {F : Nat → Prop} {w W W' : World} {μ μ' : kk} {L L' : List (Nat × Obj)}
theorem ST.ex (h : ST dd kp w W μ L) : Ex dd w W := ⟨h.os, h.tape, h.output, h.drawn, h.size, fun b d => h.lZ b d (fun x => x)⟩
theorem O4 (W : World) (o : Obj) : (W.alloc o).heap[W.heap.size]? = some o := heap_alloc_new W o
theorem nQ {W : World} {b : Nat} {o : Obj} (h : W.heap[b]? = some o) : b < W.heap.size := (dF.1 h).1
theorem ST.drew (h : ST dd F w W μ L) : ST dd F w W.drew μ L :=
 ⟨h.os, h.tape, h.output, sO.trans h.drawn (sO.of (iz _)), h.size, h.lZ, h.mem, h.box, h.nd⟩
theorem ST.DW (h : ST dd F w W μ L) {b : Nat} {o : Obj} (d : (b, o) ∈ L) : b < W.heap.size := nQ (h.box b o d).1
theorem ST.alloc (h : ST dd F w W μ L) (o : Obj) : ST dd F w (W.alloc o) μ ((W.heap.size, o) :: L) := by
 refine ⟨h.os, h.tape, h.output, h.drawn, dL h.size (Ex.alloc (dd := true) W o).size, fun b d l => ?_, fun b g d => ?_, fun b g d => ?_, ?_⟩
 ·rw [(Ex.alloc (dd := true) W o).lZ b (ee d h.size)]; exact h.lZ b d l
 ·have := h.mem b g d
  rw [(Ex.alloc (dd := true) W o).lZ b (nQ this)]; exact this
 ·rcases aQ.1 d with e | d
  ·cases e
   refine ⟨O4 W o, ?_, .inl h.size⟩
   cases hm : μ W.heap.size with
   | none => rfl
   | some x => have := nQ (h.mem _ _ hm); omega
  ·obtain ⟨h1, i, j⟩ := h.box b g d
   exact ⟨by rw [(Ex.alloc (dd := true) W o).lZ b (nQ h1)]; exact h1, i, j⟩
 ·simp only [bJ, dx]
  refine ⟨fun hm => ?_, h.nd⟩
  obtain ⟨⟨b, g⟩, d, e⟩ := bM.1 hm
  have := h.DW d
  simp at e
  omega
theorem ST.put {A B : List (Nat × Obj)} {b : Nat} {o p : Obj} (h : ST dd F w W μ (A ++ (b, o) :: B)) (u : W'.os = W.os ∧ W'.tape = W.tape ∧ W'.output = W.output ∧ W.drawn ≤ W'.drawn ∧ W'.heap.size = W.heap.size) (i : ∀ k, k ≠ b → W'.heap[k]? = W.heap[k]?) (v : W'.heap[b]? = some p) : ST dd F w W' μ (A ++ (b, p) :: B) := by
 obtain ⟨h1, q, r, s, t⟩ := u
 have g := h.box b o (by simp)
 have d := h.nd
 simp only [cE, bJ] at d
 have j : ∀ x o, (x, o) ∈ A → x ≠ b := fun x o m e => by
  subst e
  have := (bY.1 d).2.2 x (bM.2 ⟨_, m, rfl⟩) x (by simp)
  exact this rfl
 have l : ∀ x o, (x, o) ∈ B → x ≠ b := fun x o m e => by
  subst e
  have := (dx.1 (bY.1 d).2.1).1
  exact this (bM.2 ⟨_, m, rfl⟩)
 refine ⟨h1.trans h.os, q.trans h.tape, r.trans h.output, sO.trans h.drawn (sO.of s), by rw [t]; exact h.size, fun k hk n => ?_, fun k x hk => ?_, fun k x hk => ?_, by simpa using d⟩
 ·rw [i k (fun e => by subst e; rcases g.2.2 with h | h; omega; exact n h)]
  exact h.lZ k hk n
 ·rw [i k (fun e => by subst e; rw [g.2.1] at hk; cases hk)]
  exact h.mem k x hk
 ·rcases aU.1 hk with hk | hk
  ·rw [i k (j k x hk)]; exact h.box k x (by simp [hk])
  ·rcases aQ.1 hk with e | hk
   ·cases e; exact ⟨v, g.2⟩
   ·rw [i k (l k x hk)]; exact h.box k x (by simp [hk])
def Lo (F : Nat → Prop) (w : World) (μ μ' : kk) : Prop := ∀ b, b < w.heap.size → ¬ F b → μ' b = μ b
theorem Lo.refl {F : Nat → Prop} {w : World} {μ : kk} : Lo F w μ μ := fun _ _ _ => rfl
theorem Lo.trans {F : Nat → Prop} {w : World} {a b c : kk} (h : Lo F w a b) (k : Lo F w b c) : Lo F w a c := fun x g d => (k x g d).trans (h x g d)
def grow (μ : kk) (W W' : World) : kk := fun b => if b < W.heap.size then μ b else W'.heap[b]?
theorem ST.CR (h : ST dd F w W μ L) {b : Nat} {o : Obj} (d : μ b = some o) : b < W.heap.size := nQ (h.mem b o d)
theorem ST.call (h : ST dd F w W μ L) (g : Ex dd W W') : ST dd F w W' (grow μ W W') L := by
 refine ⟨g.os.trans h.os, g.tape.trans h.tape, g.output.trans h.output, sO.trans h.drawn g.drawn, dL h.size g.size, fun b d m => ?_, fun b o d => ?_, fun b o d => ?_, h.nd⟩
 ·rw [g.lZ b (ee d h.size)]; exact h.lZ b d m
 ·unfold grow at d
  split at d
  ·rename_i i; rw [g.lZ b i]; exact h.mem b o d
  ·exact d
 ·obtain ⟨h1, j, l⟩ := h.box b o d
  exact ⟨by rw [g.lZ b (nQ h1)]; exact h1, by unfold grow; rw [bB (nQ h1)]; exact j, l⟩
theorem ST.N3 (h : ST dd F w W μ L) (W' : World) : kf μ (grow μ W W') := fun b o d => by
 unfold grow; rw [bB (h.CR d)]; exact d
theorem ST.lz (h : ST dd F w W μ' L) (g : kf μ μ') : ST dd F w W μ L :=
 ⟨h.os, h.tape, h.output, h.drawn, h.size, h.lZ, fun b o d => h.mem b o (g b o d), fun b o d => by
  obtain ⟨h1, i, j⟩ := h.box b o d
  refine ⟨h1, ?_, j⟩
  cases hm : μ b with
  | none => rfl
  | some x => (have := g b x hm; rw [i] at this; cases this), h.nd⟩
theorem ST.Gp (h : ST dd F w W μ L) (b : Ex dd W W') : ST dd F w W' μ L := (h.call b).lz (h.N3 W')
theorem ST.jB (h : ST dd F w W μ L) : kf μ (hp W) := h.mem
def K9 (μ : kk) (b : Nat) (o : Obj) : kk := fun k => if k = b then some o else μ k
theorem ST.HF {A B : List (Nat × Obj)} {b : Nat} {o : Obj} (h : ST dd F w W μ (A ++ (b, o) :: B)) : ST dd F w W (K9 μ b o) (A ++ B) := by
 have i := h.box b o (by simp)
 have d := h.nd
 simp only [cE, bJ] at d
 have l : ∀ x y, (x, y) ∈ A ++ B → x ≠ b := fun x y g e => by
  subst e
  rcases aU.1 g with g | g
  ·exact (bY.1 d).2.2 x (bM.2 ⟨_, g, rfl⟩) x (by simp) rfl
  ·exact (dx.1 (bY.1 d).2.1).1 (bM.2 ⟨_, g, rfl⟩)
 refine ⟨h.os, h.tape, h.output, h.drawn, h.size, h.lZ, fun k x hk => ?_, fun k x hk => ?_, ?_⟩
 ·unfold K9 at hk
  split at hk
  ·rename_i e; cases hk; rw [e]; exact i.1
  ·exact h.mem k x hk
 ·have j : (k, x) ∈ A ++ (b, o) :: B := by
   rcases aU.1 hk with h | h <;> simp [h]
  obtain ⟨h1, m, n⟩ := h.box k x j
  exact ⟨h1, by unfold K9; rw [bo (l k x hk)]; exact m, n⟩
 ·have : (A ++ B).Sublist (A ++ (b, o) :: B) := List.Sublist.append (List.Sublist.refl A) (List.sublist_cons_self _ _)
  exact List.Nodup.sublist (this.map _) h.nd
theorem ST.Hn {A B : List (Nat × Obj)} {b : Nat} {o : Obj} (h : ST dd F w W μ (A ++ (b, o) :: B)) : kf μ (K9 μ b o) := fun k x hk => by
 unfold K9
 split
 ·rename_i e; subst e; rw [(h.box k o (by simp)).2.1] at hk; cases hk
 ·exact hk
theorem ST.NJ {A B : List (Nat × Obj)} {b : Nat} {o : Obj} (h : ST dd F w W μ (A ++ (b, o) :: B)) : Lo F w μ (K9 μ b o) := fun k hk g => by
 refine bo (fun e => ?_)
 subst e
 rcases (h.box k o (by simp)).2.2 with d | d
 ·omega
 ·exact g d
theorem ST.drop {A B : List (Nat × Obj)} {p : Nat × Obj} (h : ST dd F w W μ (A ++ p :: B)) : ST dd F w W μ (A ++ B) :=
 (h.HF (b := p.1) (o := p.2)).lz h.Hn
end
abbrev pI (α : Type) := kk → List Value → α → Prop
def Sl {α : Type} (R : pI α) (k : Nat) (μ : kk) (v : Value) (l : List α) : Prop :=
 ∃ A c, v = .slice A l.length c ∧ l.length ≤ c ∧ c ≤ maxLen ∧ (0 < l.length → ∃ b off cs T fr, A = some ⟨b, off, none⟩ ∧ μ b = some (.cells cs T fr) ∧
  ∀ i x, l[i]? = some x → ∃ ys, ys.length = k ∧ R μ ys x ∧ ∀ j y, ys[j]? = some y → cs[off + i * k + j]? = some y)
def At (μ : kk) (v : Value) (ys : List Value) : Prop :=
 ∃ b off cs T fr, v = .pointer (some ⟨b, off, none⟩) ∧ μ b = some (.cells cs T fr) ∧ ∀ j y, ys[j]? = some y → cs[off + j]? = some y
def Fr (B : Nat) (v : Value) : Prop := ∀ b, v.ownBlock = some b → B ≤ b
def Gl {α : Type} (R : pI α) : Prop := ∀ μ μ' ys x, kf μ μ' → R μ ys x → R μ' ys x
def Pl {α : Type} (enc : α → List Value) : pI α := fun _ ys x => ys = enc x
theorem Pl.mono {α : Type} (enc : α → List Value) : Gl (Pl enc) := fun _ _ _ _ _ h => h
theorem Sl.mono {α : Type} {R : pI α} (u : Gl R) {k : Nat} {μ μ' : kk} {v : Value} {l : List α} (h : Sl R k μ v l) (g : kf μ μ') : Sl R k μ' v l := by
 obtain ⟨A, c, h1, j, m, n⟩ := h
 refine ⟨A, c, h1, j, m, fun w => ?_⟩
 obtain ⟨b, off, cs, T, fr, p, q, r⟩ := n w
 exact ⟨b, off, cs, T, fr, p, g _ _ q, fun i x y => let ⟨ys, s, t, d⟩ := r i x y; ⟨ys, s, u _ _ _ _ g t, d⟩⟩
theorem At.mono {μ μ' : kk} {v : Value} {ys : List Value} (h : At μ v ys) (i : kf μ μ') : At μ' v ys := by
 obtain ⟨b, off, cs, T, fr, h1, d, g⟩ := h
 exact ⟨b, off, cs, T, fr, h1, i _ _ d, g⟩
theorem Sl.len {α : Type} {R : pI α} {k : Nat} {μ : kk} {v : Value} {l : List α} (h : Sl R k μ v l) : l.length ≤ 9223372036854775807 := by
 obtain ⟨A, c, h1, d, b, g⟩ := h
 unfold maxLen at b
 omega
theorem Sl.nil {α : Type} (R : pI α) (k : Nat) (μ : kk) : Sl R k μ (.slice none 0 0) [] := ⟨none, 0, rfl, aW _, by decide, fun h => absurd h (by simp)⟩
theorem Fr.mono {B B' : Nat} {v : Value} (h : Fr B v) (d : B' ≤ B) : Fr B' v := fun b g => dL d (h b g)
theorem Fr.nil (B : Nat) : Fr B (.slice none 0 0) := fun b d => by simp [Value.ownBlock] at d
end Go.Proofs.YtjjjihkifgdhgaaGreatDoor
namespace Go.Proofs.YtjjjihkifgdhgaaGreatDoor
open Go.RowKit
variable [M : Md]
variable {dd : Bool}
section
variable {P : Program} {n : Nat} {Q : py} {E : Nat → Value} {W : World} {ops : Array Oper} {rest : List Oper}
 {d : Option Nat} {ty : TypeId} {pos : String} {af : Array Edge} {g : Option (Nat × Bool)}
 {F : Nat → Prop} {w : World} {μ : kk} {L : List (Nat × Obj)}
def lR (P : Program) (E : Nat → Value) (o : Oper) (W : World) (v : Value) (W' : World) : Prop := (execOp (jH E) o).run P W = .ok (.value v) W'
theorem HB {o : Oper} {dd : Nat} {v : Value} (hw : sC n ops E o) (b : o.dst = some dd) (d : dd < n) (g : lR P E o W v W) (h : LW P n ops Q rest (nO E dd v) W) : LW P n ops Q (o :: rest) E W := Nu hw b d g h
theorem jC {x : Operand} {v : Value} (b : jH E x = v) : lR P E ⟨d, .move x, ty, pos, af, g⟩ W v W := by rw [← b]; rfl
theorem lO {x : Operand} {v : Value} (b : jH E x = v) : lR P E ⟨d, .assign x, ty, pos, af, g⟩ W v W := by rw [← b]; rfl
theorem jM {c x y : Operand} {v : Value} (b : jH E c = .bool true) (h : jH E x = v) : lR P E ⟨d, .pick c x y, ty, pos, af, g⟩ W v W := by
 show (do pure (.value (if ← asBool (jH E c) then jH E x else jH E y)) : Sem Next).run P W = _
 rw [b, ← h]; simp [asBool]
theorem jO {c x y : Operand} {v : Value} (b : jH E c = .bool false) (h : jH E y = v) : lR P E ⟨d, .pick c x y, ty, pos, af, g⟩ W v W := by
 show (do pure (.value (if ← asBool (jH E c) then jH E x else jH E y)) : Sem Next).run P W = _
 rw [b, ← h]; simp [asBool]
theorem uU {x : Operand} {i : Nat} {vs : Array Value} {v : Value} (h : jH E x = .tuple vs) (b : vs[i]? = some v) : lR P E ⟨d, .extract x i, ty, pos, af, g⟩ W v W := by
 show (do pure (.value (← Instr.extract (jH E x) i)) : Sem Next).run P W = _
 rw [h]; simp [Instr.extract, b]
theorem nj {u : TypeId} {x : Operand} {b : Bool} (h : jH E x = .bool b) : lR P E ⟨d, .unOp .not u x, ty, pos, af, g⟩ W (.bool !b) W := by
 show (do pure (.value (← Op.unary .not (jH E x))) : Sem Next).run P W = _
 rw [h]; simp [Op.unary]
theorem LU {fn : Fn} {first b : Array Operand} {v : Value} (h : .func fn (first.map (jH E)) (b.map (jH E)) = v) : lR P E ⟨d, .makeFunc fn first b, ty, pos, af, g⟩ W v W := by
 show (do pure (.value (← Instr.makeFunc fn (first.map (jH E)) (b.map (jH E)))) : Sem Next).run P W = _
 rw [← h]; simp [Instr.makeFunc]
def IG (k : IntKind) (op : BinOp) (a b : Int) : Option Value :=
 match op with
 | .eql => some (.bool (a == b))
 | .neq => some (.bool (a != b))
 | .lss => some (.bool (decide (a < b)))
 | .leq => some (.bool (decide (a ≤ b)))
 | .gtr => some (.bool (decide (a > b)))
 | .geq => some (.bool (decide (a ≥ b)))
 | .add => some (.int k (k.wrap (a + b)))
 | .sub => some (.int k (k.wrap (a - b)))
 | .mul => some (.int k (k.wrap (a * b)))
 | _ => none
theorem kv {op : BinOp} {tx tv : TypeId} {x y : Operand} {k : IntKind} {a b : Int} {v : Value} (i : jH E x = .int k a) (j : jH E y = .int k b) (h : IG k op a b = some v) :
  lR P E ⟨d, .binOp op tx x y tv, ty, pos, af, g⟩ W v W := by
 show (do let r ← (do eqGuard op tx x y (jH E x) (jH E y); binOp op tx (jH E x) (jH E y)); pure (.value r) : Sem Next).run P W = _
 rw [i, j]
 cases op <;> simp [IG] at h <;> subst h <;> simp [eqGuard, binOp, Op.intCmp, Op.intArith]
def Pv (op : BinOp) (a b : ByteArray) : Option Value :=
 match op with
 | .eql => some (.bool (a.toList == b.toList))
 | .neq => some (.bool !(a.toList == b.toList))
 | .lss => some (.bool (Op.bytesLess a.toList b.toList))
 | .leq => some (.bool (Op.bytesLess a.toList b.toList || a.toList == b.toList))
 | .gtr => some (.bool !(Op.bytesLess a.toList b.toList || a.toList == b.toList))
 | .geq => some (.bool !(Op.bytesLess a.toList b.toList))
 | _ => none
def pR (a b : ByteArray) : Option ByteArray := if ((a.size + b.size : Nat) : Int) > IntKind.i64.max then none else some (a ++ b)
theorem qh {op : BinOp} {tx tv : TypeId} {x y : Operand} {a b : ByteArray} {v : Value} (i : jH E x = .string a) (j : jH E y = .string b) (h : Pv op a b = some v) :
  lR P E ⟨d, .binOp op tx x y tv, ty, pos, af, g⟩ W v W := by
 show (do let r ← (do eqGuard op tx x y (jH E x) (jH E y); binOp op tx (jH E x) (jH E y)); pure (.value r) : Sem Next).run P W = _
 rw [i, j]
 cases op <;> simp [Pv] at h <;> subst h <;> simp [eqGuard, binOp, Op.stringOp]
theorem qe {tx tv : TypeId} {x y : Operand} {a b r : ByteArray} (i : jH E x = .string a) (j : jH E y = .string b) (h : pR a b = some r) :
  lR P E ⟨d, .binOp .add tx x y tv, ty, pos, af, g⟩ W (.string r) W := by
 show (do let r ← (do eqGuard .add tx x y (jH E x) (jH E y); binOp .add tx (jH E x) (jH E y)); pure (.value r) : Sem Next).run P W = _
 rw [i, j]
 simp only [pR] at h
 split at h
 ·cases h
 ·rename_i hle; cases h; simp [eqGuard, binOp, Op.stringOp]; simpa using hle
theorem uY {tx tv : TypeId} {x y : Operand} {a b : Array Value} {r : Bool} (j : jH E x = .agg a) (l : jH E y = .agg b) (h : ∀ W, (eqGuard .eql tx x y (.agg a) (.agg b)).run P W = .ok () W) (i : ∀ W, (binOp .eql tx (.agg a) (.agg b)).run P W = .ok (.bool r) W) : lR P E ⟨d, .binOp .eql tx x y tv, ty, pos, af, g⟩ W (.bool r) W := by
 show (do let r ← (do eqGuard .eql tx x y (jH E x) (jH E y); binOp .eql tx (jH E x) (jH E y)); pure (.value r) : Sem Next).run P W = _
 rw [j, l]; simp [h W, i W]
theorem E1 {tx tv : TypeId} {x y : Operand} {a b : Array Value} {r : Bool} (j : jH E x = .agg a) (l : jH E y = .agg b) (h : ∀ W, (eqGuard .neq tx x y (.agg a) (.agg b)).run P W = .ok () W) (i : ∀ W, (binOp .neq tx (.agg a) (.agg b)).run P W = .ok (.bool r) W) : lR P E ⟨d, .binOp .neq tx x y tv, ty, pos, af, g⟩ W (.bool r) W := by
 show (do let r ← (do eqGuard .neq tx x y (jH E x) (jH E y); binOp .neq tx (jH E x) (jH E y)); pure (.value r) : Sem Next).run P W = _
 rw [j, l]; simp [h W, i W]
theorem Bp {t e : TypeId} (dd : Nat) (b : P.underlying t = some (.pointer e)) (a : Option Addr) (W : World) : (Op.equalIn (dd + 1) t (.pointer a) (.pointer none)).run P W = .ok a.isNone W := by
 cases a <;> simp [Op.equalIn, aY b]
theorem ua {tx tv e : TypeId} {x y : Operand} {a : Option Addr} (h : P.underlying tx = some (.pointer e)) (i : jH E x = .pointer a) (j : jH E y = .pointer none) :
  lR P E ⟨d, .binOp .eql tx x y tv, ty, pos, af, g⟩ W (.bool a.isNone) W := by
 show (do let r ← (do eqGuard .eql tx x y (jH E x) (jH E y); binOp .eql tx (jH E x) (jH E y)); pure (.value r) : Sem Next).run P W = _
 rw [i, j]
 have b := Bp 9999 h a W
 simp [eqGuard, binOp, Op.equal, show Op.maxDepth = 9999 + 1 from rfl, b]
theorem Dt {tx tv e : TypeId} {x y : Operand} {a : Option Addr} (h : P.underlying tx = some (.pointer e)) (i : jH E x = .pointer a) (j : jH E y = .pointer none) :
  lR P E ⟨d, .binOp .neq tx x y tv, ty, pos, af, g⟩ W (.bool !a.isNone) W := by
 show (do let r ← (do eqGuard .neq tx x y (jH E x) (jH E y); binOp .neq tx (jH E x) (jH E y)); pure (.value r) : Sem Next).run P W = _
 rw [i, j]
 have b := Bp 9999 h a W
 simp [eqGuard, binOp, Op.equal, show Op.maxDepth = 9999 + 1 from rfl, b]
theorem nR {x : Operand} {t : TypeId} {s : ByteArray} (b : P.underlying t = some .string) (h : jH E x = .string s) : lR P E ⟨d, .call ⟨.builtin .len, #[x], #[t]⟩, ty, pos, af, g⟩ W (.int .i64 s.size) W := by
 show (do let d ← resolve (jH E) ⟨.builtin .len, #[x], #[t]⟩ ty; invoke d.target d.args : Sem Next).run P W = _
 simp [resolve, invoke, builtin, Builtin.len_, aY b, h, goInt]
theorem ze {x : Operand} {t e : TypeId} {A : Option Addr} {l c : Nat} (b : P.underlying t = some (.slice e)) (h : jH E x = .slice A l c) : lR P E ⟨d, .call ⟨.builtin .len, #[x], #[t]⟩, ty, pos, af, g⟩ W (.int .i64 l) W := by
 show (do let d ← resolve (jH E) ⟨.builtin .len, #[x], #[t]⟩ ty; invoke d.target d.args : Sem Next).run P W = _
 simp [resolve, invoke, builtin, Builtin.len_, aY b, h, goInt]
theorem kJ {α : Type} {R : pI α} {k : Nat} {m : kk} {x : Operand} {t e : TypeId} {v : Value} {l : List α} (h : P.underlying t = some (.slice e)) (i : jH E x = v) (b : Sl R k m v l) : lR P E ⟨d, .call ⟨.builtin .len, #[x], #[t]⟩, ty, pos, af, g⟩ W (.int .i64 l.length) W := by
 obtain ⟨A, c, rfl, _⟩ := b
 exact ze h i
theorem As {t : TypeId} {x b : Operand} {p : IntKind} {s : ByteArray} {i : Int} {c : UInt8} (m : P.underlying t = some .string) (n : jH E x = .string s) (j : jH E b = .int p i) (h : 0 ≤ i) (l : s[i.toNat]? = some c) :
  lR P E ⟨d, .index t x b, ty, pos, af, g⟩ W (.int .u8 c.toNat) W := by
 show (do pure (.value (← Instr.index t (jH E x) (jH E b))) : Sem Next).run P W = _
 rw [n, j]
 simp [Instr.index, asIntOf, aY m, h, l]
def lG (P : Program) (t : TypeId) (f off : Nat) : Prop := ∀ b o w, (Instr.fieldAt t (.pointer (some ⟨b, o, none⟩)) f).run P w = .ok (.pointer (some ⟨b, o + off, none⟩)) w
theorem jz {t : TypeId} {x : Operand} {f off b o : Nat} (h : lG P t f off) (i : jH E x = .pointer (some ⟨b, o, none⟩)) : lR P E ⟨d, .fieldAddr t x f, ty, pos, af, g⟩ W (.pointer (some ⟨b, o + off, none⟩)) W := by
 show (do pure (.value (← Instr.fieldAt t (jH E x) f)) : Sem Next).run P W = _
 rw [i]; simp [h b o W]
theorem wu {t : TypeId} {x : Operand} {f off : Nat} {v : Value} {ys : List Value} (zs : List Value) (m : lG P t f off) (q : jH E x = v) (p : At μ v ys) (r : (ys.drop off).take zs.length = zs) :
  ∃ i, At μ i zs ∧ ∀ W, lR P E ⟨d, .fieldAddr t x f, ty, pos, af, g⟩ W i W := by
 obtain ⟨b, o, cs, T, fr, rfl, h1, l⟩ := p
 refine ⟨_, ⟨b, o + off, cs, T, fr, rfl, h1, fun j y h => ?_⟩, fun W => jz m q⟩
 have n : j < zs.length := (bH.1 h).1
 have := l (off + j) y (by
  rw [← r, dA n, dW] at h
  exact h)
 rw [eo]
 exact this
theorem mJ {x : Operand} {a : Addr} (b : jH E x = .pointer (some a)) : lR P E ⟨d, .nilCheck x, ty, pos, af, g⟩ W (.pointer (some a)) W := by
 unfold lR execOp
 simp [b]
theorem HG {α : Type} {R : pI α} {k : Nat} {t e : TypeId} {x m : Operand} {Y : IntKind} {v : Value} {i : Int} {l : List α} {x0 : α} (O : P.underlying t = some (.slice e)) (he : ∀ w, (sizeOf e).run P w = .ok k w) (Q : jH E x = v) (J : jH E m = .int Y i) (M : Sl R k μ v l) (q : 0 ≤ i) (n : l[i.toNat]? = some x0) :
  ∃ p ys, ys.length = k ∧ R μ ys x0 ∧ At μ p ys ∧ ∀ W, lR P E ⟨d, .indexAddr t x m, ty, pos, af, g⟩ W p W := by
 obtain ⟨A, c, rfl, Z, h3, r⟩ := M
 have L : i.toNat < l.length := (bH.1 n).1
 obtain ⟨b, off, cs, T, fr, rfl, s, u⟩ := r (by omega)
 obtain ⟨ys, z, G, h⟩ := u i.toNat x0 n
 refine ⟨.pointer (some ⟨b, off + i.toNat * k, none⟩), ys, z, G, ⟨b, off + i.toNat * k, cs, T, fr, rfl, s, fun j y U => h j y U⟩, fun W => ?_⟩
 show (do pure (.value (← Instr.indexAt t (jH E x) (jH E m))) : Sem Next).run P W = _
 rw [Q, J]
 have I : 0 ≤ i ∧ i < (l.length : Int) := ⟨q, by omega⟩
 simp [Instr.indexAt, asIntOf, aY O, he W, I, dD]
theorem mQ {α : Type} {enc : α → List Value} {k : Nat} {t e : TypeId} {x b : Operand} {z : IntKind} {v : Value} {i : Int} {l : List α} {x0 : α} (u : P.underlying t = some (.slice e)) (he : ∀ w, (sizeOf e).run P w = .ok k w) (y : jH E x = v) (q : jH E b = .int z i) (s : Sl (Pl enc) k μ v l) (h : 0 ≤ i) (r : l[i.toNat]? = some x0) :
  ∃ p, At μ p (enc x0) ∧ ∀ W, lR P E ⟨d, .indexAddr t x b, ty, pos, af, g⟩ W p W := by
 obtain ⟨p, ys, h1, j, m, n⟩ := HG (d := d) (ty := ty) (pos := pos) (af := af) (g := g) u he y q s h r
 cases j
 exact ⟨p, m, n⟩
theorem Is (P : Program) {W : World} {b off : Nat} {cs : Array Value} {T : TypeId} {fr : Nat × Nat} (d : W.heap[b]? = some (.cells cs T fr)) (ys : List Value) (h : ∀ j y, ys[j]? = some y → cs[off + j]? = some y) :
  (loadCells ⟨b, off, none⟩ ys.length).run P W = .ok ys.toArray W :=
 gY W ⟨b, off, none⟩ ys (fun j v g => by rw [dD, fi W b (off + j) cs T fr d]; exact h j v g)
theorem B7 {W : World} {t : TypeId} {b off : Nat} {cs : Array Value} {T : TypeId} {fr : Nat × Nat} (d : ∀ w, (isAgg t).run P w = .ok true w) (ys : List Value) (g : ∀ w, (sizeOf t).run P w = .ok ys.length w) (h : W.heap[b]? = some (.cells cs T fr)) (i : ∀ j y, ys[j]? = some y → cs[off + j]? = some y) : (Instr.loadAt t (.pointer (some ⟨b, off, none⟩))).run P W = .ok (.agg ys.toArray) W := by
 simp [Instr.loadAt, Instr.sureAddr, loadVar, d W, g W, Is P h ys i]
theorem BX {W : World} {t : TypeId} {b off : Nat} {cs : Array Value} {T : TypeId} {fr : Nat × Nat} (d : ∀ w, (isAgg t).run P w = .ok false w) {y : Value} (g : W.heap[b]? = some (.cells cs T fr)) (i : cs[off]? = some y) : (Instr.loadAt t (.pointer (some ⟨b, off, none⟩))).run P W = .ok y W := by
 have h : W.cell? ⟨b, off, none⟩ = some y := by rw [fi W b off cs T fr g]; exact i
 simp [Instr.loadAt, Instr.sureAddr, loadVar, d W, load, Sem.run, h]
theorem jv {t : TypeId} {x : Operand} {a v : Value} (h : jH E x = a) (b : (Instr.loadAt t a).run P W = .ok v W) : lR P E ⟨d, .load t x, ty, pos, af, g⟩ W v W := by
 show (do pure (.value (← Instr.loadAt t (jH E x))) : Sem Next).run P W = _
 rw [h]; simp [b]
def nn (μ : kk) (A : List (Nat × Obj)) (W : World) : Prop := (∀ b o, μ b = some o → W.heap[b]? = some o) ∧ ∀ b o, (b, o) ∈ A → W.heap[b]? = some o
theorem ST.has (h : ST dd F w W μ L) : nn μ L W := ⟨h.mem, fun b o d => (h.box b o d).1⟩
theorem nn.sub {μ' : kk} {A A' : List (Nat × Obj)} (h : nn μ A W) (i : kf μ' μ) (g : ∀ p, p ∈ A' → p ∈ A) : nn μ' A' W := ⟨fun b o d => h.1 b o (i b o d), fun b o d => h.2 b o (g _ d)⟩
theorem jQ {A : List (Nat × Obj)} (hH : nn μ A W) {t : TypeId} {p : Value} {ys : List Value} (hp : At μ p ys) (g : ∀ w, (isAgg t).run P w = .ok true w) (h : ∀ w, (sizeOf t).run P w = .ok ys.length w) :
  (Instr.loadAt t p).run P W = .ok (.agg ys.toArray) W := by
 obtain ⟨b, off, cs, T, fr, rfl, h1, d⟩ := hp
 exact B7 g ys h (hH.1 _ _ h1) d
theorem oE {A : List (Nat × Obj)} (hH : nn μ A W) {t : TypeId} {p y : Value} (hp : At μ p [y]) (g : ∀ w, (isAgg t).run P w = .ok false w) :
  (Instr.loadAt t p).run P W = .ok y W := by
 obtain ⟨b, off, cs, T, fr, rfl, h1, d⟩ := hp
 exact BX g (hH.1 _ _ h1) (d 0 y rfl)
theorem jy {A : List (Nat × Obj)} (hH : nn μ A W) {t : TypeId} {b off : Nat} {cs : Array Value} {T : TypeId} {fr : Nat × Nat} (i : (b, Obj.cells cs T fr) ∈ A) (ys : List Value) (m : (cs.toList.drop off).take ys.length = ys) (h : ∀ w, (isAgg t).run P w = .ok true w) (l : ∀ w, (sizeOf t).run P w = .ok ys.length w) : (Instr.loadAt t (.pointer (some ⟨b, off, none⟩))).run P W = .ok (.agg ys.toArray) W :=
 B7 h ys l (hH.2 _ _ i) (fun j y d => by
  have g : j < ys.length := (bH.1 d).1
  rw [← m, dA g, dW] at d
  simpa using d)
theorem jK {A : List (Nat × Obj)} (hH : nn μ A W) {t : TypeId} {b off : Nat} {cs : Array Value} {T : TypeId} {fr : Nat × Nat} (g : (b, Obj.cells cs T fr) ∈ A) {y : Value} (h : cs[off]? = some y) (d : ∀ w, (isAgg t).run P w = .ok false w) : (Instr.loadAt t (.pointer (some ⟨b, off, none⟩))).run P W = .ok y W :=
 BX d (hH.2 _ _ g) h
theorem lC {t : TypeId} {b : Array (Nat × Operand)} {qs : Array (Nat × Value)} {v : Value} (h : b.map (fun (i, x) => (i, jH E x)) = qs) (j : ∀ W, (Instr.build t qs).run P W = .ok v W) : lR P E ⟨d, .build t b, ty, pos, af, g⟩ W v W := by
 show (do pure (.value (← Instr.build t (b.map fun (i, x) => (i, jH E x)))) : Sem Next).run P W = _
 rw [h]; simp [j W]
theorem kI {t : TypeId} {z cs : Array Value} {fs : Array Field} {qs : Array (Nat × Value)} {pl : Array (Nat × Nat)} (g : ∀ w, (zeroValue t).run P w = .ok (.agg z) w) (d : P.underlying t = some (.struct fs)) (hp : ∀ w, (fs.mapM fun f => do pure (f.offset, ← sizeOf f.type) : Sem (Array (Nat × Nat))).run P w = .ok pl w) (b : Instr.fill (pl[·]?) z qs.toList = some cs) (W : World) : (Instr.build t qs).run P W = .ok (.agg cs) W := by
 simp only [Instr.build, cH, g W, bQ, aY d, Value.cells]
 rw [hp W]
 simp only [bQ, b, dz]
end
theorem EC {α : Type} : ∀ (a : Ask α) (w : World), w.drawn ≤ (w.ask a).2.drawn
 | .done a, w => by simp [World.ask]
 | .ask b range k, w => by
  unfold World.ask
  dsimp only
  split
  ·exact EC (k 0) w
  ·refine dL (iz w.drawn) ?_
   exact EC _ { w with drawn := w.drawn + 1 }
theorem Nk (w : World) (c : Sys) : w.drawn ≤ (w.sys c).2.drawn := by
 have h := EC (Kernel.perform c w.os) w
 unfold World.sys
 generalize w.ask (Kernel.perform c w.os) = r at *
 obtain ⟨⟨b, d⟩, g⟩ := r
 cases b <;> simp at h ⊢ <;> exact h
theorem Gt {p : Program} {w d : World} {a : Addr} {u : TypeId} {k : Addr} {v : Value} {b : Bool} {l : List Addr} (h : w.viewStore p a u k v b = .ok (d, l)) : d.drawn = w.drawn := by
 unfold World.viewStore at h
 simp only [bind, Except.bind, pure, Except.pure] at h
 split at h
 ·cases h
 ·split at h
  ·cases h
  ·split at h
   ·split at h
    ·cases h
    ·split at h
     ·cases h
     ·cases h; rfl
   ·cases h
theorem HM {p : Program} {w d : World} {a : Addr} {v : Value} {b : Bool} {l : List Addr} (h : w.farStore p a v b = .ok (d, l)) : d.drawn = w.drawn := by
 unfold World.farStore at h
 split at h
 ·split at h
  ·rename_i h1; cases h; exact Gt h1
  ·cases h
 ·cases h
theorem oa {α : Type} {p : Program} : ∀ (s : Sem α) (w d : World) (a : α), s.run p w = .ok a d → w.drawn ≤ d.drawn
 | .pure a, w, d, b, h => by simp only [Sem.run] at h; cases h; exact aW _
 | .load m a k, w, d, b, h => by
  simp only [Sem.run] at h
  split at h
  ·exact oa _ _ _ _ h
  ·split at h
   ·exact oa _ _ _ _ h
   ·cases h
 | .store m a v k, w, d, b, h => by
  have key : ∀ (r : Result α) i, r = .ok b d → (r = (match w.cell? a with
    | some _ => if w.frozen? a then .halt i w else k.run p (w.setCell a v)
    | none => match w.farStore p a v (m == .atomic) with
     | .ok (w, _) => k.run p w
     | .error h => .halt h w)) → w.drawn ≤ d.drawn := by
   intro r i j h
   rw [j] at h
   split at h
   ·split at h
    ·cases h
    ·have := oa k _ _ _ h.symm
     simpa [World.setCell] using this
   ·split at h
    ·rename_i h1
     have g := oa k _ _ _ h.symm
     rw [HM h1] at g
     exact g
    ·cases h
  cases v with
  | agg cs => simp only [Sem.run] at h; cases h
  | tuple cs => simp only [Sem.run] at h; cases h
  | _ => exact key _ _ h (by simp only [Sem.run]; rfl)
 | .new o k, w, d, b, h => by simp only [Sem.run] at h; have := oa (k _) _ _ _ h; exact this
 | .shape r k, w, d, b, h => by simp only [Sem.run] at h; exact oa _ _ _ _ h
 | .freeze a n k, w, d, b, h => by
  simp only [Sem.run] at h
  have := oa k _ _ _ h
  unfold World.freeze at this
  split at this <;> exact this
 | .frozen a k, w, d, b, h => by simp only [Sem.run] at h; exact oa _ _ _ _ h
 | .getObj r k, w, d, b, h => by
  simp only [Sem.run] at h
  split at h <;> try (cases h; done)
  exact oa _ _ _ _ h
 | .setObj r o k, w, d, b, h => by
  simp only [Sem.run] at h
  split at h <;> try (cases h; done)
  have := oa k _ _ _ h
  exact this
 | .choose q k, w, d, b, h => by
  simp only [Sem.run] at h
  split at h
  ·exact oa _ _ _ _ h
  ·exact dL (iz _) (oa _ _ _ _ h)
 | .sys c k, w, d, b, h => by
  simp only [Sem.run] at h
  exact dL (Nk w c) (oa _ _ _ _ h)
 | .program k, w, d, b, h => by simp only [Sem.run] at h; exact oa _ _ _ _ h
 | .mark m k, w, d, b, h => by simp only [Sem.run] at h; exact oa k _ _ _ h
 | .halt x, w, d, b, h => by simp only [Sem.run] at h; cases h
end Go.Proofs.YtjjjihkifgdhgaaGreatDoor
namespace Go.Proofs.YtjjjihkifgdhgaaGreatDoor
open Go.RowKit
variable [M : Md]
variable {dd : Bool}
section
variable {P : Program} {n : Nat} {Q : py} {E : Nat → Value} {W : World} {ops : Array Oper} {rest : List Oper}
 {d : Option Nat} {ty : TypeId} {pos : String} {af : Array Edge} {g : Option (Nat × Bool)}
 {F : Nat → Prop} {w : World} {μ : kk} {L : List (Nat × Obj)}
def mY (P : Program) (E : Nat → Value) (o : Oper) (W : World) (K : Value → World → Prop) : Prop :=
 (∃ v W', (execOp (jH E) o).run P W = .ok (.value v) W' ∧ K v W') ∨ (∃ W', (execOp (jH E) o).run P W = .ok .skip W' ∧ K undef W') ∨
 (∃ f args, (execOp (jH E) o).run P W = .ok (.enter f args) W ∧ Calls P f args W fun e b => ∃ v, e = .returned v ∧ K v b)
theorem mY.mono {o : Oper} {K K' : Value → World → Prop} (h : mY P E o W K) (hk : ∀ v W', K v W' → K' v W') : mY P E o W K' := by
 rcases h with ⟨v, W', h1, b⟩ | ⟨W', h1, b⟩ | ⟨f, args, h1, b⟩
 ·exact .inl ⟨v, W', h1, hk _ _ b⟩
 ·exact .inr (.inl ⟨W', h1, hk _ _ b⟩)
 ·exact .inr (.inr ⟨f, args, h1, dr b (fun _ _ ⟨v, d, g⟩ => ⟨v, d, hk _ _ g⟩)⟩)
theorem QT {o : Oper} {dd : Nat} (hw : sC n ops E o) (d : o.dst = some dd) (g : dd < n) (h : mY P E o W fun v W' => LW P n ops Q rest (nO E dd v) W') : LW P n ops Q (o :: rest) E W := by
 rcases h with ⟨v, W', h1, b⟩ | ⟨W', h1, b⟩ | ⟨f, args, h1, b⟩
 ·exact Nu hw d g h1 b
 ·intro a ha
  unfold wpListIn
  rw [bB (hw.of ha)]
  unfold Oper.wpIn
  refine ⟨fun _ _ => trivial, ?_⟩
  rw [ha.eval, yP h1 (by simp), Oper.uponIn_skip, d]
  exact b _ (ha.put g _)
 ·exact ON hw d g h1 b
theorem Sx {o : Oper} (hw : sC n ops E o) (d : o.dst = none) (h : mY P E o W fun _ W' => LW P n ops Q rest E W') : LW P n ops Q (o :: rest) E W := by
 rcases h with ⟨v, W', h1, b⟩ | ⟨W', h1, b⟩ | ⟨f, args, h1, b⟩
 ·intro a ha
  unfold wpListIn
  rw [bB (hw.of ha)]
  unfold Oper.wpIn
  refine ⟨fun _ _ => trivial, ?_⟩
  rw [ha.eval, yP h1 (by simp), Oper.uponIn_value, d]
  exact b _ (ha.yX _)
 ·exact Oi hw d h1 b
 ·intro a ha
  unfold wpListIn
  rw [bB (hw.of ha)]
  unfold Oper.wpIn
  refine ⟨fun _ _ => trivial, ?_⟩
  rw [ha.eval, yP h1 (by simp), Oper.uponIn_enter]
  refine HE (dr b ?_)
  rintro e i ⟨v, rfl, g⟩
  simp only [d]
  exact g _ (ha.yX _)
theorem kj {K : Value → World → Prop} {t : TypeId} {x : Operand} {v : Value} (i : ST dd F w W μ L) (j : jH E x = v) (h : ∀ W' b, ST dd F w W' μ ((b, .cells v.cells t (0, 0)) :: L) → K (.pointer (some ⟨b, 0, none⟩)) W') : mY P E ⟨d, .box t x, ty, pos, af, g⟩ W K :=
 .inl ⟨.pointer (some ⟨W.heap.size, 0, none⟩), W.alloc (.cells v.cells t (0, 0)), by
   show (do pure (.value (← Instr.box t (jH E x))) : Sem Next).run P W = _
   rw [j]
   simp [Instr.box, newVar, newRow, newObj, Sem.run], h _ _ (i.alloc _)⟩
theorem kh {K : Value → World → Prop} {t : TypeId} {z : Value} (i : ST dd F w W μ L) (j : ∀ w, (zeroValue t).run P w = .ok z w) (h : ∀ W' b, ST dd F w W' μ ((b, .cells z.cells t (0, 0)) :: L) → K (.pointer (some ⟨b, 0, none⟩)) W') : mY P E ⟨d, .alloc t, ty, pos, af, g⟩ W K :=
 .inl ⟨.pointer (some ⟨W.heap.size, 0, none⟩), W.alloc (.cells z.cells t (0, 0)), by
   show (do pure (.value (← Instr.alloc t true (.tuple #[]))) : Sem Next).run P W = _
   simp [Instr.alloc, j W, newVar, newRow, newObj, Sem.run], h _ _ (i.alloc _)⟩
theorem Hi {t e : TypeId} {m k : Nat} {z : Value} {qs : Array (Nat × Value)} {cs : Array Value} (h : P.underlying t = some (.slice e)) (g : ∀ w, (sizeOf e).run P w = .ok k w) (j : ∀ w, (zeroValue e).run P w = .ok z w) (hm : m * k ≤ 16777216) (b : Instr.fill (fun i => some (i * k, k)) ((Array.range (m * k)).map (fun i => (if m * k = 0 then (#[] : Array Value) else z.cells)[i % (if m * k = 0 then (#[] : Array Value) else z.cells).size]!)) qs.toList = some cs) (W : World) :
  (Instr.buildSlice t m qs).run P W = .ok (.slice (some ⟨W.heap.size, 0, none⟩) m m) (W.alloc (.cells cs e (0, 0))) := by
 simp only [Instr.buildSlice, cH, aY h, bQ, g W]
 rw [bo (by omega)]
 by_cases d : m * k = 0
 ·simp only [d, aO] at b ⊢
  simp only [cH, dz, bQ, b]
  simp [newRow, newObj, Sem.run]
 ·simp only [d, aJ] at b ⊢
  simp only [cH, j W, dz, bQ, b]
  simp [newRow, newObj, Sem.run]
theorem jW {K : Value → World → Prop} {t e : TypeId} {m : Nat} {l : Array (Nat × Operand)} {qs : Array (Nat × Value)} {cs : Array Value} (j : ST dd F w W μ L) (n : l.map (fun (i, x) => (i, jH E x)) = qs) (p : ∀ W, (Instr.buildSlice t m qs).run P W = .ok (.slice (some ⟨W.heap.size, 0, none⟩) m m) (W.alloc (.cells cs e (0, 0)))) (h : ∀ W' b, ST dd F w W' μ ((b, .cells cs e (0, 0)) :: L) → K (.slice (some ⟨b, 0, none⟩) m m) W') : mY P E ⟨d, .buildSlice t m l, ty, pos, af, g⟩ W K :=
 .inl ⟨.slice (some ⟨W.heap.size, 0, none⟩) m m, W.alloc (.cells cs e (0, 0)), by
   show (do pure (.value (← Instr.buildSlice t m (l.map fun (i, x) => (i, jH E x)))) : Sem Next).run P W = _
   rw [n]
   simp [p W], h _ _ (j.alloc _)⟩
theorem ST.store {A B : List (Nat × Obj)} {b : Nat} {cs : Array Value} {t : TypeId} (g : ST dd F w W μ (A ++ (b, .cells cs t (0, 0)) :: B)) (d : Array Value) :
  ST dd F w (W.setRow b d) μ (A ++ (b, .cells d t (0, 0)) :: B) := by
 have h := (g.box b _ (by simp : (b, Obj.cells cs t (0, 0)) ∈ A ++ (b, .cells cs t (0, 0)) :: B)).1
 refine g.put ⟨rfl, rfl, rfl, aW _, by simp [World.setRow]⟩ (fun k hk => ?_) (setRow_heap W b cs d t (0, 0) h)
 simp only [World.setRow, dS]
 rw [bo (fun e => hk e.symm)]
theorem Ca (P : Program) {W : World} {t : TypeId} {b off : Nat} {cs : Array Value} {T : TypeId} (v : Value) (d : ∀ w, (sizeOf t).run P w = .ok v.cells.size w) (h1 : ∀ u ∈ v.cells.toList, u.oneCell' = true) (g : W.heap[b]? = some (.cells cs T (0, 0))) (h : off + v.cells.size ≤ cs.size) : (Instr.storeAt t (.pointer (some ⟨b, off, none⟩)) v).run P W = .ok () (W.setRow b (cs.toList.take off ++ v.cells.toList ++ cs.toList.drop (off + v.cells.size)).toArray) := by
 have := iA (P := P) b off T v.cells.toList 0 cs W g (by simpa using h) h1
 simp [Instr.storeAt, Instr.sureAddr, storeVar, d W]
 simpa using this
theorem P5 {K : Value → World → Prop} (A : List (Nat × Obj)) {B : List (Nat × Obj)} {t : TypeId} {x y : Operand} (v : Value) {b off : Nat} {cs : Array Value} {T : TypeId} (i : Array Value) (j : ST dd F w W μ (A ++ (b, .cells cs T (0, 0)) :: B)) (q : jH E x = .pointer (some ⟨b, off, none⟩)) (r : jH E y = v) (l : ∀ w, (sizeOf t).run P w = .ok v.cells.size w) (h1 : ∀ u ∈ v.cells.toList, u.oneCell' = true) (p : off + v.cells.size ≤ cs.size) (n : (cs.toList.take off ++ v.cells.toList ++ cs.toList.drop (off + v.cells.size)).toArray = i) (h : ∀ W', ST dd F w W' μ (A ++ (b, .cells i T (0, 0)) :: B) → K undef W') : mY P E ⟨d, .store t x y, ty, pos, af, g⟩ W K :=
 .inr (.inl ⟨W.setRow b i, by
   show (do Instr.storeAt t (jH E x) (jH E y); pure .skip : Sem Next).run P W = _
   have m := (j.box b _ (by simp : (b, Obj.cells cs T (0, 0)) ∈ A ++ (b, .cells cs T (0, 0)) :: B)).1
   rw [q, r]
   simp only [cH, Ca P v l h1 m p, n, bQ, dz], h _ (j.store i)⟩)
def jT (dd : Bool) (P : Program) (f : FuncId) (args : List Value) (w : World) (v : Value) : Prop := Calls P f args.toArray w fun e b => e = .returned v ∧ Ex dd w b
theorem No {f : FuncId} {fv : Operand} {ax : Array Operand} {ats : Array TypeId} {b args : Array Value} (h : jH E fv = .func (.func f) #[] b) (he : ∀ args w, (callFunc f args).run P w = .ok (.enter f args) w) (ha : ax.map (jH E) ++ b = args) :
  (execOp (jH E) ⟨d, .call ⟨.value fv, ax, ats⟩, ty, pos, af, g⟩).run P W = .ok (.enter f args) W := by
 show (do let d ← resolve (jH E) ⟨.value fv, ax, ats⟩ ty; invoke d.target d.args : Sem Next).run P W = _
 rw [← ha]
 simp only [resolve, h, Deferred.ofValue, cH, dz, bQ, invoke]
 simp [he]
theorem EQ {K : Value → World → Prop} {f : FuncId} {fv : Operand} {ax : Array Operand} {ats : Array TypeId} {b args : Array Value} (i : jH E fv = .func (.func f) #[] b) (he : ∀ args w, (callFunc f args).run P w = .ok (.enter f args) w) (ha : ax.map (jH E) ++ b = args) (h : Calls P f args W fun e j => ∃ v, e = .returned v ∧ K v j) : mY P E ⟨d, .call ⟨.value fv, ax, ats⟩, ty, pos, af, g⟩ W K :=
 .inr (.inr ⟨f, args, No i he ha, h⟩)
theorem ES {K : Value → World → Prop} {f : FuncId} {fv : Operand} {ax : Array Operand} {ats : Array TypeId} {args : List Value} {v : Value} (b : ST dd F w W μ L) (l : jH E fv = .func (.func f) #[] #[]) (he : ∀ args w, (callFunc f args).run P w = .ok (.enter f args) w) (ha : (ax.map (jH E) ++ (#[] : Array Value)) = args.toArray) (j : jT dd P f args W v) (h : ∀ W', ST dd F w W' μ L → K v W') : mY P E ⟨d, .call ⟨.value fv, ax, ats⟩, ty, pos, af, g⟩ W K :=
 EQ l he ha (dr j (fun _ _ ⟨h1, i⟩ => ⟨v, h1, h _ (b.Gp i)⟩))
def jX {α : Type} (e : TypeId) (enc : α → List Value) (k : Nat) (v : Value) (l : List α) (R : List (Nat × Obj)) : Prop :=
 (v = .slice none 0 0 ∧ l = [] ∧ R = []) ∨
 ∃ g cap b, v = .slice (some ⟨g, 0, none⟩) l.length cap ∧ R = [(g, .cells b e (0, 0))] ∧ l.length ≤ cap ∧ cap ≤ maxLen ∧ b.size = cap * k ∧ b.toList.take (l.length * k) = (l.map enc).flatten
theorem pB {α : Type} {enc : α → List Value} {k : Nat} (hk : ∀ x, (enc x).length = k) : ∀ l : List α, (l.map enc).flatten.length = l.length * k
 | [] => by simp
 | x :: l => by simp [pB hk l, hk x, cP, Nat.add_comm]
theorem xQ {α : Type} {enc : α → List Value} {k : Nat} (hk : ∀ x, (enc x).length = k) : ∀ (l : List α) (i : Nat) (x : α), l[i]? = some x → ∀ j y, (enc x)[j]? = some y → (l.map enc).flatten[i * k + j]? = some y
 | [], i, x, h => by cases h
 | z :: l, 0, x, h => by
  simp at h; subst h
  intro j y b
  have d : j < (enc z).length := (bH.1 b).1
  simp [fF, d]
  rw [dP d] at b
  simpa using b
 | z :: l, i + 1, x, h => by
  intro j y b
  have := xQ hk l i x (by simpa using h) j y b
  simp only [bJ, bO]
  rw [eQ (by rw [hk z]; have := Nat.le_mul_of_pos_left k (Nat.succ_pos i); simp [cP] at *; omega), hk z]
  rw [show (i + 1) * k + j - k = i * k + j by rw [cP]; omega]
  exact this
theorem F0 {α : Type} {enc : α → List Value} {k : Nat} (hk : ∀ x, (enc x).length = k) : ∀ (l : List α) (q : Nat) (y : Value), (l.map enc).flatten[q]? = some y → ∃ i x j, l[i]? = some x ∧ (enc x)[j]? = some y ∧ q = i * k + j
 | [], q, y, h => by simp at h
 | z :: l, q, y, h => by
  simp only [bJ, bO] at h
  by_cases d : q < k
  ·rw [fM (by rw [hk]; exact d)] at h
   exact ⟨0, z, q, rfl, h, by simp⟩
  ·rw [eQ (by rw [hk]; omega), hk] at h
   obtain ⟨i, x, j, h1, b, g⟩ := F0 hk l (q - k) y h
   exact ⟨i + 1, x, j, by simpa using h1, b, by rw [cP]; omega⟩
theorem jX.nil {α : Type} (e : TypeId) (enc : α → List Value) (k : Nat) : jX e enc k (.slice none 0 0) [] [] := .inl ⟨rfl, rfl, rfl⟩
theorem jX.sl {α : Type} {e : TypeId} {enc : α → List Value} {k : Nat} {v : Value} {l : List α} {R : List (Nat × Obj)} {m : kk} (h : jX e enc k v l R) (hk : ∀ x, (enc x).length = k) (hm : ∀ b o, (b, o) ∈ R → m b = some o) : Sl (Pl enc) k m v l := by
 rcases h with ⟨rfl, rfl, rfl⟩ | ⟨g, cap, d, rfl, rfl, h1, p, t, q⟩
 ·exact Sl.nil _ _ _
 ·refine ⟨_, cap, rfl, h1, p, fun _ => ⟨g, 0, d, e, (0, 0), rfl, hm _ _ (by simp), fun i x r => ⟨enc x, hk x, rfl, fun j y s => ?_⟩⟩⟩
  have := xQ hk l i x r j y s
  rw [← q] at this
  have n : i * k + j < l.length * k := by
   have := (bH.1 this).1
   simp at this; omega
  rw [dA n] at this
  simpa using this
theorem jX.len {α : Type} {e : TypeId} {enc : α → List Value} {k : Nat} {v : Value} {l : List α} {R : List (Nat × Obj)} (h : jX e enc k v l R) : l.length ≤ 9223372036854775807 := by
 rcases h with ⟨rfl, rfl, rfl⟩ | ⟨g, cap, b, rfl, rfl, h1, d, i, j⟩
 ·simp
 ·unfold maxLen at d; omega
theorem jX.fr {α : Type} {e : TypeId} {enc : α → List Value} {k : Nat} {v : Value} {l : List α} {R X Y : List (Nat × Obj)} (h : jX e enc k v l R) (d : ST dd kp w W μ (X ++ (R ++ Y))) : Fr w.heap.size v := by
 rcases h with ⟨rfl, rfl, rfl⟩ | ⟨g, cap, j, rfl, rfl, h1, m, n, p⟩
 ·exact Fr.nil _
 ·intro b i
  simp [Value.ownBlock] at i
  subst i
  rcases (d.box g _ (by simp; exact .inr (.inl rfl))).2.2 with h | h
  ·exact h
  ·exact h.elim
theorem jX.lit {α : Type} {e : TypeId} {enc : α → List Value} {k b m : Nat} {l : List α} {cs : Array Value} (hm : l.length = m) (g : m ≤ maxLen) (h : cs.toList = (l.map enc).flatten) (d : cs.size = m * k) : jX e enc k (.slice (some ⟨b, 0, none⟩) m m) l [(b, .cells cs e (0, 0))] := by
 subst hm
 refine .inr ⟨b, _, cs, rfl, rfl, aW _, g, d, ?_⟩
 rw [← h, ← d]
 exact dM (by rw [dE]; exact aW _)
def lX {α : Type} (b : Nat) (l m : List α) : Option (List α) := if (l.length + m.length) * b ≤ 140737488355328 ∧ l.length + m.length ≤ maxLen then some (l ++ m) else none
theorem Jj {K : Value → World → Prop} {α : Type} {e t : TypeId} {enc : α → List Value} {k ab : Nat} {z v vs : Value} {l m r : List α} {R : List (Nat × Obj)} (X : List (Nat × Obj)) {Y : List (Nat × Obj)} {x y : Operand} {i : TypeInfo} (p : ST dd F w W μ (X ++ (R ++ Y))) (hk : ∀ x, (enc x).length = k) (b2 : 0 < k) (h1 : ∀ x, ∀ u ∈ enc x, u.oneCell' = true) (ht : P.underlying t = some (.slice e)) (hi : P.info? e = some i) (hz : i.zero = some z) (b6 : z.cells.size = k) (b3 : i.size = k) (b0 : i.bytes = ab) (hx : jH E x = v) (hy : jH E y = vs) (hR : jX e enc k v l R) (hs : Sl (Pl enc) k (hp W) vs m) (n : lX ab l m = some r) (h : ∀ W' v' R', ST dd F w W' μ (X ++ (R' ++ Y)) → jX e enc k v' r R' → K v' W') : mY P E ⟨d, .call ⟨.builtin .append, #[x, y], #[t, t]⟩, ty, pos, af, g⟩ W K := by
 unfold lX at n
 split at n
 case isFalse => cases n
 rename_i aj
 cases n
 have aa : ∀ (V : Value) (W' : World), (Builtin.append_ #[t, t] ty #[v, vs]).run P W = .ok V W' → (execOp (jH E) ⟨d, .call ⟨.builtin .append, #[x, y], #[t, t]⟩, ty, pos, af, g⟩).run P W = .ok (.value V) W' := by
  intro V W' hV
  show (do let d ← resolve (jH E) ⟨.builtin .append, #[x, y], #[t, t]⟩ ty; invoke d.target d.args : Sem Next).run P W = _
  simp [resolve, invoke, builtin, hx, hy, hV]
 obtain ⟨A, c, rfl, ba, bc, b1⟩ := hs
 have a8 : W.ownsRow 0 e k v l.length (l.map enc).flatten := by
  refine ⟨pB hk l, ?_⟩
  rcases hR with ⟨rfl, rfl, rfl⟩ | ⟨g, cap, J, rfl, rfl, h1, h2, h3, h4⟩
  ·exact .inl ⟨rfl, rfl⟩
  ·exact .inr ⟨g, cap, J, rfl, ez _, (p.box g _ (by simp)).1, h1, h2, h3, h4⟩
 have au : m.length = 0 ∨ ∃ ad, A = some ad ∧ ∀ j u, (m.map enc).flatten[j]? = some u → W.cell? (ad.add j) = some u := by
  rcases ef m.length with O | O
  ·exact .inl O
  ·obtain ⟨b, off, cs, T, fr, rfl, h6, h7⟩ := b1 O
   refine .inr ⟨⟨b, off, none⟩, rfl, fun j u hu => ?_⟩
   obtain ⟨i, x, q, h8, h9, rfl⟩ := F0 hk m j u hu
   obtain ⟨ys, _, aw, ay⟩ := h7 i x h8
   cases aw
   rw [dD, fi W b (off + (i * k + q)) cs T fr h6, ← eo]
   exact ay q u h9
 have ar : ∀ u ∈ (m.map enc).flatten, u.oneCell' = true := by
  intro u hu
  obtain ⟨ys, b5, b4⟩ := iQ.1 hu
  obtain ⟨x, _, rfl⟩ := bM.1 b5
  exact h1 x u b4
 by_cases ao : m.length = 0
 ·have hm : m = [] := aV ao
  subst hm
  have hr : (Builtin.append_ #[t, t] ty #[v, .slice A 0 c]).run P W = .ok v W := by
   rcases a8.2 with ⟨rfl, O⟩ | ⟨g, cap, J, rfl, _, hg, ap, _, bd, _⟩
   ·cases A with
    | none => simp [Builtin.append_, aY ht, sizeOf, typeInfo, hi, Builtin.lenOf, Builtin.firstCells]
    | some ad => simp [Builtin.append_, aY ht, sizeOf, typeInfo, hi, Builtin.lenOf, Builtin.firstCells, loadCells, loadCellsFrom]
   ·cases A with
    | none => simp [Builtin.append_, aY ht, sizeOf, typeInfo, hi, Builtin.lenOf, Builtin.firstCells, ap, storeCells]
    | some ad => simp [Builtin.append_, aY ht, sizeOf, typeInfo, hi, Builtin.lenOf, Builtin.firstCells, loadCells, loadCellsFrom, ap, storeCells]
  exact .inl ⟨v, W, aa _ _ (by simpa using hr), by simpa using h W v R p (by simpa using hR)⟩
 rcases au with O | ⟨ad, rfl, a1⟩
 ·exact absurd O ao
 obtain ⟨v', W', hr, ah, s, b9, M⟩ := run_append_own_at (P := P) W 0 t ty e i z k ab ht hi hz b3 b0 b6 b2 v l.length (l.map enc).flatten a8 ad m.length c (m.map enc).flatten (pB hk m) a1 ar aj.2 aj.1 (ez _)
 have ae := oa _ _ _ _ hr
 refine .inl ⟨v', W', aa _ _ hr, ?_⟩
 have hlen : (l ++ m).length = l.length + m.length := by simp
 rcases ah.2 with ⟨_, O⟩ | ⟨U, a6, a7, rfl, _, ag, b7, ak, al, av⟩
 ·omega
 have ai : jX e enc k (.slice (some ⟨U, 0, none⟩) (l.length + m.length) a6) (l ++ m) [(U, .cells a7 e (0, 0))] :=
  .inr ⟨U, a6, a7, by rw [hlen], rfl, by omega, ak, al, by rw [hlen, av]; simp⟩
 refine h W' _ _ ?_ ai
 have aq := p.nd
 rcases hR with ⟨rfl, rfl, rfl⟩ | ⟨g, cap, J, rfl, rfl, q1, q2, q3, q4⟩
 ·-- nil: a new block
  have Z : W.heap.size ≤ U := by
   rcases M with h | h <;> simp [Value.ownBlock] at h
   omega
  have hex : Ex dd W W' := ⟨s.os, s.tape, s.output, sO.of ae, s.size, fun b n => s.block b n (by simp [Value.ownBlock])⟩
  have h1 := p.Gp hex
  refine ⟨h1.os, h1.tape, h1.output, h1.drawn, h1.size, h1.lZ, h1.mem, fun b o n => ?_, ?_⟩
  ·simp only [aU, bV] at n
   rcases n with n | n | n
   ·exact h1.box b o (by simp [n])
   ·cases n
    refine ⟨ag, ?_, .inl (dL p.size Z)⟩
    cases hm : μ U with
    | none => rfl
    | some x => have := p.CR hm; omega
   ·exact h1.box b o (by simp [n])
  ·simp only [bE, cE, bJ, fz] at aq ⊢
   refine (fO eP).2 (dx.2 ⟨fun hm => ?_, aq⟩)
   rw [← cE] at hm
   obtain ⟨⟨b, o⟩, n, L⟩ := bM.1 hm
   have aE : (b, o) ∈ X ++ ([] ++ Y) := by simpa using n
   have := p.DW aE
   simp at L
   omega
 ·by_cases an : U = g
  ·subst an
   have O : ST dd F w W μ (X ++ (U, Obj.cells J e (0, 0)) :: Y) := by simpa using p
   have hold : ∀ b, b < W.heap.size → b ≠ U → W'.heap[b]? = W.heap[b]? := fun b n I => s.block b n (by simp [Value.ownBlock]; exact I)
   have G := O.nd
   simp only [cE, bJ] at G
   have I : ∀ b o, (b, o) ∈ X ++ Y → b ≠ U := fun b o n L => by
    subst L
    rcases aU.1 n with n | n
    ·exact (bY.1 G).2.2 b (bM.2 ⟨_, n, rfl⟩) b (by simp) rfl
    ·exact (dx.1 (bY.1 G).2.1).1 (bM.2 ⟨_, n, rfl⟩)
   have Q := O.box U (Obj.cells J e (0, 0)) (by simp)
   refine ⟨s.os.trans p.os, s.tape.trans p.tape, s.output.trans p.output, sO.trans p.drawn (sO.of ae), dL p.size s.size, fun b n hF => ?_, fun b o n => ?_, fun b o n => ?_, by simpa using G⟩
   ·rw [hold b (ee n p.size) (fun L => by subst L; rcases Q.2.2 with h | h; omega; exact hF h)]
    exact p.lZ b n hF
   ·rw [hold b (p.CR n) (fun L => by subst L; rw [Q.2.1] at n; cases n)]
    exact p.mem b o n
   ·simp only [aU, bV] at n
    rcases n with n | n | n
    ·obtain ⟨r1, r2⟩ := p.box b o (by simp [n])
     exact ⟨by rw [hold b (nQ r1) (I b o (by simp [n]))]; exact r1, r2⟩
    ·cases n; exact ⟨ag, Q.2⟩
    ·obtain ⟨r1, r2⟩ := p.box b o (by simp [n])
     exact ⟨by rw [hold b (nQ r1) (I b o (by simp [n]))]; exact r1, r2⟩
  ·have Z : W.heap.size ≤ U := by
    rcases M with h | h <;> simp [Value.ownBlock] at h
    ·exact absurd h an
    ·omega
   have O : ST dd F w W μ (X ++ (g, Obj.cells J e (0, 0)) :: Y) := by simpa using p
   have Q := O.box g (Obj.cells J e (0, 0)) (by simp)
   have G := O.nd
   simp only [cE, bJ] at G
   have I : ∀ b o, (b, o) ∈ X ++ Y → b ≠ g := fun b o n L => by
    subst L
    rcases aU.1 n with n | n
    ·exact (bY.1 G).2.2 b (bM.2 ⟨_, n, rfl⟩) b (by simp) rfl
    ·exact (dx.1 (bY.1 G).2.1).1 (bM.2 ⟨_, n, rfl⟩)
   have hold : ∀ b, b < W.heap.size → b ≠ g → W'.heap[b]? = W.heap[b]? := fun b n I => s.block b n (by simp [Value.ownBlock]; exact I)
   refine ⟨s.os.trans p.os, s.tape.trans p.tape, s.output.trans p.output, sO.trans p.drawn (sO.of ae), dL p.size s.size, fun b n hF => ?_, fun b o n => ?_, fun b o n => ?_, ?_⟩
   ·rw [hold b (ee n p.size) (fun L => by subst L; rcases Q.2.2 with h | h; omega; exact hF h)]
    exact p.lZ b n hF
   ·rw [hold b (p.CR n) (fun L => by subst L; rw [Q.2.1] at n; cases n)]
    exact p.mem b o n
   ·simp only [aU, bV] at n
    rcases n with n | n | n
    ·obtain ⟨r1, r2⟩ := p.box b o (by simp [n])
     exact ⟨by rw [hold b (nQ r1) (I b o (by simp [n]))]; exact r1, r2⟩
    ·cases n
     refine ⟨ag, ?_, .inl (dL p.size Z)⟩
     cases hm : μ U with
     | none => rfl
     | some x => have := p.CR hm; omega
    ·obtain ⟨r1, r2⟩ := p.box b o (by simp [n])
     exact ⟨by rw [hold b (nQ r1) (I b o (by simp [n]))]; exact r1, r2⟩
   ·have az : (X.map (·.1) ++ Y.map (·.1)).Nodup := (dx.1 ((fO eP).1 G)).2
    simp only [cE, bJ, fz]
    refine (fO eP).2 (dx.2 ⟨fun hm => ?_, az⟩)
    rw [← cE] at hm
    obtain ⟨⟨b, o⟩, n, L⟩ := bM.1 hm
    have := p.DW (b := b) (o := o) (by rcases aU.1 n with h | h <;> simp [h])
    simp at L
    omega
end
end Go.Proofs.YtjjjihkifgdhgaaGreatDoor
namespace Go.Proofs.YtjjjihkifgdhgaaGreatDoor
open Go.RowKit
variable [M : Md]
def Bh (l : List Value) : Nat → Value := fun t => l.getD t undef
def wX (P : Program) (fn : Func) (R : Ending → World → Prop) : py
 | .normal, E, W | .ret, E, W => ∃ v, (∀ tmps : Array Value, (∀ t, tmps.getD t undef = E t) → (results fn tmps).run P W = .ok v W) ∧ R (.returned v) W
 | _, _, _ => False
theorem xl {P : Program} {f : FuncId} {fn : Func} {c : Code} {args : List Value} {w : World} {R : Ending → World → Prop} {n : Nat} (q : P.funcs[f]? = some fn) (p : fn.body = some c) (r : fn.ntmps = n) (ha : args.length ≤ n) (h : @CW AH P n c (wX P fn R) (Bh args) w) : Calls P f args.toArray w R := by
 refine calls_of_wp q p ?_
 have i : @Ag AH n { tmps := args.toArray ++ Array.replicate (fn.ntmps - args.toArray.size) undef, defers := [] } (Bh args) := by
  refine ⟨by simp; omega, rfl, fun t => ?_⟩
  simp only [Bh, eE, List.getD_eq_getElem?_getD, Array.getElem?_append, Array.getElem?_replicate, dH, gA]
  by_cases m : t < args.length
  ·rw [bB m]
  ·rw [bo m, fA (by omega)]
   split <;> simp
 refine wp_mono ((wpIn_wide (n := 0)).1 (h _ i)) (fun e a s d => ?_)
 cases e with
 | normal =>
  obtain ⟨E, b, v, j, g⟩ := d
  exact ⟨b.2.1, v, j _ b.2.2, g⟩
 | ret =>
  obtain ⟨E, b, v, j, g⟩ := d
  exact ⟨b.2.1, v, j _ b.2.2, g⟩
 | exit id => obtain ⟨E, b, h⟩ := d; exact h.elim
 | goto l => obtain ⟨E, b, h⟩ := d; exact h.elim
 | panic c => exact d.2.elim
 | outgrown => exact d.elim
section
variable {P : Program} {fn : Func} {R : Ending → World → Prop} {E : Nat → Value} {W : World}
theorem kO {r : Tmp} {v : Value} (b : fn.results = #[.tmp r]) (g : E r = v) (h : R (.returned v) W) : wX P fn R .ret E W :=
 ⟨v, fun tmps d => by rw [results_tmp b, d, g], h⟩
theorem D3 {r s : Tmp} {v u : Value} (d : fn.results = #[.tmp r, .tmp s]) (g : E r = v) (hu : E s = u) (h : R (.returned (.tuple #[v, u])) W) : wX P fn R .ret E W :=
 ⟨.tuple #[v, u], fun tmps b => by rw [results_tmp2 d, b, b, g, hu], h⟩
theorem ob (b : fn.results = #[]) (h : R (.returned (.tuple #[])) W) : wX P fn R .ret E W :=
 ⟨.tuple #[], fun tmps _ => by rw [results_none b], h⟩
theorem mO {r : Tmp} {t : TypeId} {a : Addr} {v : Value} (b : fn.results = #[.cell r t]) (i : E r = .pointer (some a)) (g : (Instr.loadAt t (.pointer (some a))).run P W = .ok v W) (h : R (.returned v) W) : wX P fn R .ret E W :=
 ⟨v, fun tmps d => by
  have h1 : (loadVar t a).run P W = .ok v W := by simpa [Instr.loadAt, Instr.sureAddr] using g
  simp [results, b, d, i, asAddr, h1], h⟩
theorem pd (h : wX P fn R .ret E W) : wX P fn R .normal E W := h
end
section
variable {Q : py} {E : Nat → Value} {W : World} {K : (Nat → Value) → World → Prop} {id j : Nat}
theorem ke (h : Q .normal E W) : vZ id Q .normal E W := h
theorem mn (h : Q .ret E W) : vZ id Q .ret E W := h
theorem qp (h : Q .normal E W) : vZ id Q (.exit id) E W := by simp [vZ]; exact h
theorem RR (b : (j = id) = False) (h : Q (.exit j) E W) : vZ id Q (.exit j) E W := by simp only [vZ, b, aJ]; exact h
theorem jE (h : K E W) : qj K Q .normal E W := h
theorem km (h : Q .ret E W) : qj K Q .ret E W := h
theorem mR (h : Q (.exit j) E W) : qj K Q (.exit j) E W := h
end
theorem Nt {i N : Nat} (d : i < N) (b : N ≤ 9223372036854775807) : IntKind.i64.wrap ((i : Int) + 1) = ((i + 1 : Nat) : Int) := by
 rw [IntWalk.i64_in _ (by omega)]
 omega
theorem ku {P : Program} {n : Nat} {Q : py} {E : Nat → Value} {W : World} {g s Z r6 p q A u : Nat} {t1 t2 t3 t4 t5 t6 t7 : TypeId} {T U Y : String} {f1 f2 f3 : Array Edge} {body : Code} (I : Nat → (Nat → Value) → World → Prop) (N : Nat) (M : N ≤ 9223372036854775807) (G : I 0 E W) (O : p < n) (R : u < n) (z : q < n) (L : ∀ i E W, I i E W → E q = .int .i64 (i : Nat) ∧ E A = .int .i64 (N : Nat)) (round : ∀ i E W, i < N → I i E W → CW P n (.block s body) (qj (fun E' W' => E' q = .int .i64 (i : Nat) ∧ I (i + 1) (nO (nO E' u (.int .i64 ((i + 1 : Nat) : Int))) q (.int .i64 ((i + 1 : Nat) : Int))) W') (vZ g Q)) (nO E p (.bool true)) W) (done : ∀ E W, I N E W → Q .normal (nO E p (.bool false)) W) :
  CW P n (.block g (.loop (.seq (.region Z #[⟨some p, .binOp .lss t1 (.tmp q) (.tmp A) t2, t3, T, f1, none⟩] false)
   (.seq (.cond (.tmp p) .skip (.exit g)) (.seq (.block s body)
    (.region r6 #[⟨some u, .binOp .add t4 (.tmp q) (.const (.int .i64 1)) t5, t6, U, f2, none⟩, ⟨some q, .move (.tmp u), t7, Y, f3, none⟩] false)))))) Q E W := by
 refine lA (nc (fun m E W => ∃ i, i ≤ N ∧ m = N - i ∧ I i E W) N ⟨0, ez _, by omega, G⟩ ?_)
 rintro m E W ⟨i, hi, rfl, d⟩
 obtain ⟨w, x⟩ := L i E W d
 refine jI (jG (HB (.inl rfl) rfl O (kv w x rfl) (jU ?_)))
 refine jE (jI ?_)
 have t : nO E p (.bool (decide ((i : Int) < (N : Int)))) p = .bool (decide ((i : Int) < (N : Int))) := by simp [nO]
 by_cases r : i < N
 ·have y : decide ((i : Int) < (N : Int)) = true := by simp; omega
  rw [y] at t ⊢
  refine wy t (kG (jE (jI ?_)))
  refine Hq (round i E W r d) (fun e E' W' h => ?_)
  cases e with
  | normal =>
   obtain ⟨h1, J⟩ := h
   refine jE ?_
   have hw : IntKind.i64.wrap ((i : Int) + 1) = ((i + 1 : Nat) : Int) := Nt r M
   refine jG (HB (v := .int .i64 ((i + 1 : Nat) : Int)) (.inl rfl) rfl R (kv (k := .i64) (a := (i : Int)) (b := 1) h1 rfl (by simp only [IG, hw])) ?_)
   refine HB (v := .int .i64 ((i + 1 : Nat) : Int)) (.inl rfl) rfl z (jC (by simp [jH, nO])) (jU ?_)
   exact jE ⟨N - (i + 1), by omega, i + 1, by omega, rfl, J⟩
  | exit j => exact h
  | goto l => exact h
  | ret => exact h
  | panic c => exact h
  | outgrown => exact h
 ·have y : decide ((i : Int) < (N : Int)) = false := by simp; omega
  rw [y] at t ⊢
  obtain rfl : i = N := by omega
  refine ql t (na (mR (mR (qp ?_))))
  exact done E W d
theorem NC {P : Program} {n : Nat} {x : Code} {Q : py} {K : (Nat → Value) → World → Prop} {E : Nat → Value} {W : World} (J : (Nat → Value) → World → Prop) (h : CW P n x (qj J Q) E W) (k : ∀ E W, J E W → K E W) : CW P n x (qj K Q) E W :=
 Hq h (fun e E W h => by cases e <;> first | exact k E W h | exact h)
theorem Q9 {α : Type} {c : Bool} {x y r : α} (b : c = true) (h : (if c = true then x else y) = r) : x = r := by rw [bB b] at h; exact h
theorem Rf {α : Type} {c : Bool} {x y r : α} (b : c = false) (h : (if c = true then x else y) = r) : y = r := by rw [bo (by rw [b]; decide)] at h; exact h
theorem bind_some {α β : Type} {o : Option α} {f : α → Option β} {r : β} (h : o.bind f = some r) : ∃ y, o = some y ∧ f y = some r := by
 cases o with
 | none => cases h
 | some y => exact ⟨y, rfl, h⟩
theorem MI (b : Bool) : b = true ∨ b = false := by cases b <;> simp
theorem kc {α : Type} {l : List α} {i : Nat} (h : i < l.length) : ∃ x xs, l.drop i = x :: xs ∧ l[i]? = some x ∧ l.drop (i + 1) = xs := by
 cases b : l.drop i with
 | nil => have := bD List.length b; simp at this; omega
 | cons x xs => exact ⟨x, xs, rfl, by rw [← List.head?_drop, b]; rfl, by rw [← List.drop_drop, b]; rfl⟩
theorem AK {P : Program} {W : World} (d : Nat) (xs ys : Array Value) : (Op.eqFields d xs ys []).run P W = .ok true W := by simp [Op.eqFields]
theorem ov {P : Program} {W : World} {d : Nat} {xs ys : Array Value} {f : Field} {fs : List Field} {a b : Value} {r s : Bool} (i : f.name ≠ "_") (ha : (part f.type xs f.offset).run P W = .ok a W) (g : (part f.type ys f.offset).run P W = .ok b W) (he : (Op.equalIn d f.type a b).run P W = .ok r W) (h : (Op.eqFields d xs ys fs).run P W = .ok s W) : (Op.eqFields d xs ys (f :: fs)).run P W = .ok (r && s) W := by
 simp only [Op.eqFields, ne_eq, i, not_false_eq_true, aO, cH, ha, g, he, bQ]
 cases r <;> simp [h]
theorem yV {P : Program} {W : World} {t : TypeId} {k : Nat} {cs : Array Value} {off : Nat} {v : Array Value} (b : ∀ w, (isAgg t).run P w = .ok true w) (d : ∀ w, (sizeOf t).run P w = .ok k w) (g : cs.extract off (off + k) = v) : (part t cs off).run P W = .ok (.agg v) W := by
 simp [part, b W, d W, g]
theorem oF {P : Program} {W : World} {t : TypeId} {cs : Array Value} {off : Nat} {v : Value} (b : ∀ w, (isAgg t).run P w = .ok false w) (d : cs[off]? = some v) : (part t cs off).run P W = .ok v W := by
 simp [part, b W, d]
def kP (a b : ByteArray) : Bool := a.toList == b.toList
theorem Ph {P : Program} {t : TypeId} (g : P.underlying t = some .string) (d : Nat) (a b : ByteArray) (W : World) : (Op.equalIn (d + 1) t (.string a) (.string b)).run P W = .ok (kP a b) W := run_equalIn_string W d t a b g
theorem Pj {P : Program} {t : TypeId} {k : IntKind} (g : P.underlying t = some (.int k)) (d : Nat) (a b : Int) (W : World) : (Op.equalIn (d + 1) t (.int k a) (.int k b)).run P W = .ok (a == b) W := run_equalIn_int W d t k k a b g
theorem nm {P : Program} {op : BinOp} {t : TypeId} {x y : Operand} {a b : Array Value} (d : P.eqGuardType P.depth t = false) (W : World) : (eqGuard op t x y (.agg a) (.agg b)).run P W = .ok () W := by
 cases op <;> simp [eqGuard] <;> (intro h; rw [d] at h; cases h)
theorem ru {P : Program} {t : TypeId} {a b : Array Value} {r : Bool} (h : ∀ W, (Op.equalIn Op.maxDepth t (.agg a) (.agg b)).run P W = .ok r W) (W : World) : (binOp .eql t (.agg a) (.agg b)).run P W = .ok (.bool r) W := by
 simp [binOp, Op.equal, h W]
theorem Ax {P : Program} {t : TypeId} {a b : Array Value} {r : Bool} (h : ∀ W, (Op.equalIn Op.maxDepth t (.agg a) (.agg b)).run P W = .ok r W) (W : World) : (binOp .neq t (.agg a) (.agg b)).run P W = .ok (.bool !r) W := by
 simp [binOp, Op.equal, h W]
end Go.Proofs.YtjjjihkifgdhgaaGreatDoor
namespace Go.Proofs.YtjjjihkifgdhgaaGreatDoor
open Go.RowKit
variable [M : Md]
variable {dd : Bool}
def kN (k : IntKind) (x : Int) : List Value := [.int k x]
def Ri (x : Bool) : List Value := [.bool x]
def sH (x : ByteArray) : List Value := [.string x]
theorem EK (k : IntKind) (x : Int) : ∀ u ∈ kN k x, u.oneCell' = true := by intro u hu; simp [kN] at hu; subst hu; rfl
theorem Tm (x : Bool) : ∀ u ∈ Ri x, u.oneCell' = true := by intro u hu; simp [Ri] at hu; subst hu; rfl
theorem Ms (x : ByteArray) : ∀ u ∈ sH x, u.oneCell' = true := by intro u hu; simp [sH] at hu; subst hu; rfl
def zS : ByteArray := ⟨#[]⟩
def pH (a b : ByteArray) : Bool := Op.bytesLess a.toList b.toList
@[irreducible] def jY : Nat := 18446744073709551616
theorem wM : jY = 18446744073709551616 := by unfold jY; rfl
def lB {α : Type} (l : List α) (i : Int) : Option α := if 0 ≤ i then l[i.toNat]? else none
theorem kl {α : Type} {l : List α} {i : Int} {x : α} (h : lB l i = some x) : 0 ≤ i := by
 unfold lB at h; split at h
 ·assumption
 ·cases h
theorem ki {α : Type} {l : List α} {i : Int} {x : α} (h : lB l i = some x) : l[i.toNat]? = some x := by
 unfold lB at h; split at h
 ·exact h
 ·cases h
theorem EP {α : Type} (l : List α) (i : Nat) : lB l (i : Int) = l[i]? := by simp [lB]
def Aa (s : ByteArray) (i : Int) : Option UInt8 := if 0 ≤ i then s[i.toNat]? else none
theorem zq {s : ByteArray} {i : Int} {x : UInt8} (h : Aa s i = some x) : 0 ≤ i := by
 unfold Aa at h; split at h
 ·assumption
 ·cases h
theorem Df {s : ByteArray} {i : Int} {x : UInt8} (h : Aa s i = some x) : s[i.toNat]? = some x := by
 unfold Aa at h; split at h
 ·exact h
 ·cases h
section
variable {F : Nat → Prop} {w W : World} {μ : kk} {L L' : List (Nat × Obj)} {α : Type} {e : TypeId} {enc : α → List Value} {k : Nat} {v : Value} {l : List α} {R : List (Nat × Obj)}
theorem ST.at_ (h : ST dd F w W μ L) {b : Nat} {o : Obj} (d : (b, o) ∈ L) : hp W b = some o := (h.box b o d).1
theorem jX.Rj (h : jX e enc k v l R) (hk : ∀ x, (enc x).length = k) (b : ST dd F w W μ L) (d : ∀ p, p ∈ R → p ∈ L) : Sl (Pl enc) k (hp W) v l :=
 h.sl hk (fun _ _ g => b.at_ (d _ g))
theorem jX.form (h : jX e enc k v l R) : ∃ A c, v = .slice A l.length c := by
 rcases h with ⟨rfl, rfl, rfl⟩ | ⟨g, cap, b, rfl, rfl, h1, d, i, j⟩
 ·exact ⟨_, _, rfl⟩
 ·exact ⟨_, _, rfl⟩
theorem Sl.form {R : pI α} (h : Sl R k μ v l) : ∃ A c, v = .slice A l.length c := let ⟨A, c, h, _⟩ := h; ⟨A, c, h⟩
theorem Sl.lit {b m : Nat} {cs : Array Value} (hk : ∀ x, (enc x).length = k) (hm : l.length = m) (g : m ≤ maxLen) (d : cs.toList = (l.map enc).flatten) (i : μ b = some (.cells cs e (0, 0))) : Sl (Pl enc) k μ (.slice (some ⟨b, 0, none⟩) m m) l :=
 (jX.lit (e := e) (b := b) hm g d (by have := bD List.length d; rw [pB hk, dE, hm] at this; exact this)).sl hk (fun j o h => by simp at h; obtain ⟨rfl, rfl⟩ := h; exact i)
theorem Fr.box (h : ST dd kp w W μ L) {b m c : Nat} {o : Obj} (g : (b, o) ∈ L) : Fr w.heap.size (.slice (some ⟨b, 0, none⟩) m c) := by
 intro i d
 simp [Value.ownBlock] at d
 subst d
 rcases (h.box b o g).2.2 with h | h
 ·exact h
 ·exact h.elim
theorem ST.perm (h : ST dd F w W μ L) (hp : L.Perm L') : ST dd F w W μ L' :=
 ⟨h.os, h.tape, h.output, h.drawn, h.size, h.lZ, h.mem, fun b o d => h.box b o (hp.mem_iff.2 d), (hp.map _).nodup_iff.1 h.nd⟩
theorem ST.sublist (h : ST dd F w W μ L) (d : L'.Sublist L) : ST dd F w W μ L' :=
 ⟨h.os, h.tape, h.output, h.drawn, h.size, h.lZ, h.mem, fun b o g => h.box b o (d.subset g), h.nd.sublist (d.map _)⟩
end
section
variable {E : Nat → Value} {x1 x2 x3 x4 x5 x6 : Operand} {v1 v2 v3 v4 v5 v6 : Value}
theorem vg (h1 : jH E x1 = v1) : #[x1].map (jH E) ++ (#[] : Array Value) = [v1].toArray := by simp [h1]
theorem wP (h1 : jH E x1 = v1) (b : jH E x2 = v2) : #[x1, x2].map (jH E) ++ (#[] : Array Value) = [v1, v2].toArray := by simp [h1, b]
end
theorem H6 : ∀ (v : List Value) (i off : Nat) (cells : Array Value), off + i + v.length ≤ cells.size →
  (v.zipIdx i).foldl (fun cs (c, j) => cs.setIfInBounds (off + j) c) cells = (cells.toList.take (off + i) ++ v ++ cells.toList.drop (off + i + v.length)).toArray
 | [], i, off, cells, h => by simp
 | c :: v, i, off, cells, h => by
  simp only [iR, fU]
  simp only [aI] at h
  rw [H6 v (i + 1) off _ (by simp; omega)]
  have g : off + i < cells.toList.length := by simp; omega
  congr 1
  rw [Array.toList_setIfInBounds]
  apply eB
  intro j
  have l : (cells.toList.take (off + i)).length = off + i := by simp; omega
  by_cases h1 : j < off + i
  ·simp only [fF, aF, dp, gL, dE, aI, fj, eV, dW]
   rw [show min (off + (i + 1)) cells.size = off + (i + 1) by omega, show min (off + i) cells.size = off + i by omega]
   rw [bB (by omega), bB (by omega), bB (by omega), bo (by omega), bB (by omega), bB (by omega), bB (by omega)]
  ·by_cases d : j = off + i
   ·subst d
    simp [fF, fj, eV, show off + i < off + (i + 1) by omega]
    rw [bB (by omega), bB (by omega), bo (by omega), show off + i - min (off + i) cells.size = 0 by omega]
    rfl
   ·simp only [fF, aF, dp, gL, dE, aI, fj, eV, dW]
    rw [show min (off + (i + 1)) cells.size = off + (i + 1) by omega, show min (off + i) cells.size = off + i by omega]
    by_cases b : j < off + (i + 1) + v.length
    ·rw [bB b, bo (by omega), bB (by omega), bo (by omega)]
     rw [show j - (off + i) = (j - (off + (i + 1))) + 1 by omega]
     simp
    ·rw [bo b, bo (by omega), bo (by omega)]
     congr 1
     omega
theorem JU {k : Nat} : ∀ (vs : List Value) (i : Nat) (pre rest : List Value), (∀ v ∈ vs, v.cells.size = k) → pre.length = i * k → rest.length = vs.length * k →
  Instr.fill (fun i => some (i * k, k)) (pre ++ rest).toArray ((vs.zipIdx i).map (fun p => (p.2, p.1))) = some (pre ++ vs.flatMap (fun v => v.cells.toList)).toArray
 | [], i, pre, rest, g, hp, d => by
  have : rest = [] := by cases rest <;> simp at d ⊢
  simp [Instr.fill, this]
 | v :: vs, i, pre, rest, g, hp, d => by
  have b := g v (by simp)
  have h : v.cells.zipIdx.foldl (fun cs (c, j) => cs.setIfInBounds (i * k + j) c) (pre ++ rest).toArray = (pre ++ v.cells.toList ++ rest.drop k).toArray := by
   have := H6 v.cells.toList 0 (i * k) (pre ++ rest).toArray (by simp [hp, d, b, cP])
   rw [← Array.toList_zipIdx, Array.foldl_toList] at this
   rw [this]
   congr 1
   simp [← hp, b]
  simp only [iR, bJ, Instr.fill]
  rw [bo (by simp [b, hp, d, cP]), h]
  have := JU vs (i + 1) (pre ++ v.cells.toList) (rest.drop k) (fun u hu => g u (by simp [hu])) (by simp [hp, b, cP]) (by simp [d, cP])
  rw [this]
  simp
theorem N8 {k m : Nat} {b cs : Array Value} {qs : Array (Nat × Value)} (vs : List Value) (g : qs.toList = vs.zipIdx.map (fun p => (p.2, p.1))) (j : ∀ v ∈ vs, v.cells.size = k) (hm : vs.length = m) (h : b.size = m * k) (d : (vs.flatMap (fun v => v.cells.toList)).toArray = cs) : Instr.fill (fun i => some (i * k, k)) b qs.toList = some cs := by
 subst hm d
 rw [g]
 have := JU vs 0 [] b.toList j (by simp) (by simpa using h)
 simpa using this
theorem ye {P : Program} {t e : TypeId} {m k : Nat} {z : Value} {qs : Array (Nat × Value)} {cs : Array Value} (vs : List Value) (i : P.underlying t = some (.slice e)) (h : ∀ w, (sizeOf e).run P w = .ok k w) (l : ∀ w, (zeroValue e).run P w = .ok z w) (hm : m * k ≤ 16777216) (g : qs.toList = vs.zipIdx.map (fun p => (p.2, p.1))) (j : ∀ v ∈ vs, v.cells.size = k) (d : vs.length = m) (b : (vs.flatMap (fun v => v.cells.toList)).toArray = cs) (W : World) :
  (Instr.buildSlice t m qs).run P W = .ok (.slice (some ⟨W.heap.size, 0, none⟩) m m) (W.alloc (.cells cs e (0, 0))) :=
 Hi i h l hm (N8 vs g j d (by simp) b) W
theorem qa {E : Nat → Value}  : (#[] : Array (Nat × Operand)).map (fun (i, x) => (i, jH E x)) = #[] := by simp
theorem kX {E : Nat → Value} {x0 : Operand} {v0 : Value} {i0 : Nat} (b : jH E x0 = v0) : (#[(i0, x0)] : Array (Nat × Operand)).map (fun (i, x) => (i, jH E x)) = #[(i0, v0)] := by simp [b]
theorem uJ {E : Nat → Value} {x0 x1 : Operand} {v0 v1 : Value} {i0 i1 : Nat} (b : jH E x0 = v0) (h1 : jH E x1 = v1) : (#[(i0, x0), (i1, x1)] : Array (Nat × Operand)).map (fun (i, x) => (i, jH E x)) = #[(i0, v0), (i1, v1)] := by simp [b, h1]
theorem xv {E : Nat → Value} {x0 x1 x2 : Operand} {v0 v1 v2 : Value} {i0 i1 i2 : Nat} (b : jH E x0 = v0) (h1 : jH E x1 = v1) (d : jH E x2 = v2) : (#[(i0, x0), (i1, x1), (i2, x2)] : Array (Nat × Operand)).map (fun (i, x) => (i, jH E x)) = #[(i0, v0), (i1, v1), (i2, v2)] := by simp [b, h1, d]
theorem Q8 {E : Nat → Value} {x0 x1 x2 x3 : Operand} {v0 v1 v2 v3 : Value} {i0 i1 i2 i3 : Nat} (b : jH E x0 = v0) (h1 : jH E x1 = v1) (d : jH E x2 = v2) (g : jH E x3 = v3) : (#[(i0, x0), (i1, x1), (i2, x2), (i3, x3)] : Array (Nat × Operand)).map (fun (i, x) => (i, jH E x)) = #[(i0, v0), (i1, v1), (i2, v2), (i3, v3)] := by simp [b, h1, d, g]
theorem RA {E : Nat → Value} {x0 x1 x2 x3 x4 : Operand} {v0 v1 v2 v3 v4 : Value} {i0 i1 i2 i3 i4 : Nat} (b : jH E x0 = v0) (h1 : jH E x1 = v1) (d : jH E x2 = v2) (g : jH E x3 = v3) (h : jH E x4 = v4) : (#[(i0, x0), (i1, x1), (i2, x2), (i3, x3), (i4, x4)] : Array (Nat × Operand)).map (fun (i, x) => (i, jH E x)) = #[(i0, v0), (i1, v1), (i2, v2), (i3, v3), (i4, v4)] := by simp [b, h1, d, g, h]
theorem kH {P : Program} {t : TypeId} {f off : Nat} {fs : Array Field} {fd : Field} (i : P.underlying t = some (.struct fs)) (d : fs[f]? = some fd) {k : Nat} (h : ∀ w, (sizeOf fd.type).run P w = .ok k w) (hk : k ≠ 0) (g : fd.offset = off) : lG P t f off := by
 intro b o w
 subst g
 simp [Instr.fieldAt, aY i, d, Instr.sureAddr, fieldPlace, dD, h w, hk]
theorem Ag.Ge {n : Nat} {a : Act} {E : Nat → Value} (h : Ag n a E) {ops : Array Oper} {j t : Nat} (d : (ops[j]?).bind (·.dst) = some t) (i : t < n) (l : E t = undef) : yielded ops a.tmps j = none := by
 have b := h.2.2 t
 have g : a.tmps[t]? = some (E t) := by
  rw [← b]
  simp [eE, h.1, i]
 simp [yielded, d, g, l, undef]
theorem Rg {P : Program} {n : Nat} {Q : py} {E : Nat → Value} {W : World} {ops : Array Oper} {rest : List Oper} {o : Oper} {d j t : Nat} {want : Bool} (g : o.dst = some d) (m : d < n) (i : o.guard = some (j, want)) (l : (ops[j]?).bind (·.dst) = some t) (p : t < n) (b : E t = undef) (h : LW P n ops Q rest (nO E d undef) W) : LW P n ops Q (o :: rest) E W := fun a ha => by
 unfold wpListIn
 have q := ha.Ge l p b
 rw [bo (by simp [Region.wanted, i, q])]
 rw [g]
 exact ⟨fun _ _ => trivial, h _ (ha.put m _)⟩
theorem R0 {P : Program} {n : Nat} {Q : py} {E : Nat → Value} {W : World} {ops : Array Oper} {rest : List Oper} {A : Value → Prop} {o : Oper} {dd : Nat} (hw : sC n ops E o) (d : o.dst = some dd) (g : dd < n) (i : ∃ p, A p ∧ ∀ W, lR P E o W p W) (h : ∀ p, A p → LW P n ops Q rest (nO E dd p) W) : LW P n ops Q (o :: rest) E W := by
 obtain ⟨p, h1, b⟩ := i
 exact HB hw d g (b W) (h p h1)
end Go.Proofs.YtjjjihkifgdhgaaGreatDoor
namespace Go.Proofs.YtjjjihkifgdhgaaGreatDoor
open Go.RowKit
variable [M : Md]
variable {dd : Bool}
theorem rb {P : Program} {n : Nat} {x : Code} {Q : py} {E : Nat → Value} {W : World} (h : CW P n x (qj (fun E W => Q .normal E W) Q) E W) : CW P n x Q E W :=
 Hq h (fun e E W h => by cases e <;> exact h)
section
variable {P : Program} {n : Nat} {Q : py} {E : Nat → Value} {W : World} {d : Option Nat} {ty : TypeId} {pos : String} {af : Array Edge} {g : Option (Nat × Bool)}
 {F : Nat → Prop} {w : World} {μ : kk} {L : List (Nat × Obj)}
def Pn (k : IntKind) (op : BinOp) (a b : Int) : Option Value :=
 match op with
 | .quo => some (.int k (k.wrap (a.tdiv b)))
 | .rem => some (.int k (a.tmod b))
 | .and => some (.int k (k.wrap (BitVec.ofInt k.bits a &&& BitVec.ofInt k.bits b).toNat))
 | .or => some (.int k (k.wrap (BitVec.ofInt k.bits a ||| BitVec.ofInt k.bits b).toNat))
 | _ => none
theorem IJ {op : BinOp} {tx tv : TypeId} {x y : Operand} {k : IntKind} {a b : Int} {v : Value} (j : jH E x = .int k a) (l : jH E y = .int k b) (i : b ≠ 0) (h : Pn k op a b = some v) :
  lR P E ⟨d, .binOp op tx x y tv, ty, pos, af, g⟩ W v W := by
 show (do let r ← (do eqGuard op tx x y (jH E x) (jH E y); binOp op tx (jH E x) (jH E y)); pure (.value r) : Sem Next).run P W = _
 rw [j, l]
 cases op <;> simp [Pn] at h <;> subst h <;> simp [eqGuard, binOp, Op.intDiv, Op.intBits, i]
theorem G1 {tx tv : TypeId} {x y : Operand} {k k' : IntKind} {a b : Int} (h : jH E x = .int k a) (i : jH E y = .int k' b) (j : 0 ≤ b) :
  lR P E ⟨d, .binOp .shr tx x y tv, ty, pos, af, g⟩ W (.int k (a.fdiv (2 ^ min b.toNat k.bits))) W := by
 show (do let r ← (do eqGuard .shr tx x y (jH E x) (jH E y); binOp .shr tx (jH E x) (jH E y)); pure (.value r) : Sem Next).run P W = _
 rw [h, i]
 simp [eqGuard, binOp, Op.shift, show ¬ b < 0 by omega]
theorem qN {s t : TypeId} {x : Operand} {k k' : IntKind} {a : Int} {u : TypeDesc} (b : P.underlying s = some u) (h : P.underlying t = some (.int k)) (i : jH E x = .int k' a) :
  lR P E ⟨d, .convert s t x, ty, pos, af, g⟩ W (.int k (k.wrap a)) W := by
 show (do pure (.value (← convert s t (jH E x))) : Sem Next).run P W = _
 rw [i]
 simp [convert, aY b, aY h, Conv.intToInt]
theorem Hs {t e : TypeId} (dd : Nat) (b : P.underlying t = some (.slice e)) (A : Option Addr) (l c : Nat) (W : World) : (Op.equalIn (dd + 1) t (.slice A l c) (.slice none 0 0)).run P W = .ok A.isNone W := by
 cases A <;> simp [Op.equalIn, aY b]
theorem Bk {tx tv e : TypeId} {x y : Operand} {A : Option Addr} {l c : Nat} (h : P.underlying tx = some (.slice e)) (i : jH E x = .slice A l c) (j : jH E y = .slice none 0 0) :
  lR P E ⟨d, .binOp .eql tx x y tv, ty, pos, af, g⟩ W (.bool A.isNone) W := by
 show (do let r ← (do eqGuard .eql tx x y (jH E x) (jH E y); binOp .eql tx (jH E x) (jH E y)); pure (.value r) : Sem Next).run P W = _
 rw [i, j]
 have b := Hs 9999 h A l c W
 simp [eqGuard, binOp, Op.equal, show Op.maxDepth = 9999 + 1 from rfl, b]
def my (s : ByteArray) : List Int := s.data.toList.map (fun b => (b.toNat : Int))
def CD (s : ByteArray) : Option (List Int) := if s.size ≤ maxLen then some (my s) else none
theorem mU (s : ByteArray) : (my s).length = s.size := by simp only [my, dq, dE]; rfl
theorem MA {s : ByteArray} {cap i : Nat} {x : Int} (h : (my s)[i]? = some x) : (bytesRow s cap)[i]? = some (.int .u8 x) := by
 have j : i < s.size := by have := (bH.1 h).1; rwa [mU] at this
 have d : i < s.data.size := j
 simp [my] at h
 obtain ⟨b, g, rfl⟩ := h
 rw [bytesRow, Array.getElem?_append_left (by simpa using d)]
 simp [g]
theorem Il {K : Value → World → Prop} {s t e : TypeId} {x : Operand} {str : ByteArray} {l : List Int} (n : ST dd F w W μ L) (z : P.underlying s = some .string) (u : P.underlying t = some (.slice e)) (he : P.underlying e = some (.int .u8)) (q : jH E x = .string str) (m : CD str = some l) (h : ∀ W' v μ', ST dd F w W' μ' L → kf μ μ' → Lo F w μ μ' → Sl (Pl (kN .u8)) 1 μ' v l → Fr w.heap.size v → K v W') : mY P E ⟨d, .convert s t x, ty, pos, af, g⟩ W K := by
 unfold CD at m
 split at m
 case isFalse => cases m
 rename_i hm
 cases m
 have p := run_bytes_of_string (P := P) W s t e str z u he
 have h1 := n.drew.alloc (.cells (bytesRow str (grownCap W str.size 0 e)) e ((bytesRow str (grownCap W str.size 0 e)).size, (bytesRow str (grownCap W str.size 0 e)).size + 1))
 refine .inl ⟨.slice (some ⟨W.heap.size, 0, none⟩) str.size (grownCap W str.size 0 e), _, ?_, h _ _ _ (ST.HF (A := []) h1) (ST.Hn (A := []) h1) (ST.NJ (A := []) h1) ?_ ?_⟩
 ·show (do pure (.value (← convert s t (jH E x))) : Sem Next).run P W = _
  rw [q]
  simp only [cH, p, bQ, dz]
 ·refine ⟨_, grownCap W str.size 0 e, by rw [mU], by rw [mU]; exact jh W str.size 0 e, fY W str.size 0 e hm, fun _ => ⟨W.heap.size, 0, bytesRow str (grownCap W str.size 0 e), e, _, rfl, bB rfl, fun i x q => ⟨_, rfl, rfl, fun j y r => ?_⟩⟩⟩
  cases j with
  | zero => simp [kN] at r; subst r; simpa using MA q
  | succ j => simp [kN] at r
 ·intro b m
  simp [Value.ownBlock] at m
  subst m
  exact n.size
def DO (l : List Int) : ByteArray := l.foldl (fun r n => r.push (UInt8.ofNat n.toNat)) ByteArray.empty
theorem Lb {s t e : TypeId} {x : Operand} {v : Value} {l : List Int} (G : P.underlying s = some (.slice e)) (he : P.underlying e = some (.int .u8)) (z : P.underlying t = some .string) (J : jH E x = v) (I : Sl (Pl (kN .u8)) 1 (hp W) v l) :
  lR P E ⟨d, .convert s t x, ty, pos, af, g⟩ W (.string (DO l)) W := by
 show (do pure (.value (← convert s t (jH E x))) : Sem Next).run P W = _
 obtain ⟨A, c, rfl, L, M, r⟩ := I
 rw [J]
 simp only [cH, run_convert_bytes_string W s t e A l.length c G he z]
 rcases ef l.length with h | h
 ·have : l = [] := ei.1 h
  subst this
  cases A with
  | none => simp [Conv.bytesToString, DO]
  | some a =>
   have u := run_bytesToString (P := P) W a 0 c [] (by simpa using gY (P := P) W a [] (by simp))
   simp only [bR]
   rw [u]
   simp [DO]
 ·obtain ⟨b, off, cs, T, fr, rfl, w, y⟩ := r h
  have q := gY (P := P) W ⟨b, off, none⟩ (l.map (Value.int .u8)) (fun j v p => by
   simp at p
   obtain ⟨x, m, rfl⟩ := p
   obtain ⟨ys, _, n, i⟩ := y j x m
   cases n
   rw [dD, fi W b (off + j) cs T fr w]
   have := i 0 (.int .u8 x) rfl
   simpa using this)
  simp only [dq] at q
  rw [run_bytesToString W _ l.length c l q]
  simp [DO]
end
end Go.Proofs.YtjjjihkifgdhgaaGreatDoor
namespace Go.Proofs.YtjjjihkifgdhgaaGreatDoor
open Go.RowKit
variable {dd : Bool}
def keys (L : List (Nat × Obj)) : Nat → Prop := fun b => ∃ o, (b, o) ∈ L
structure TO (dd : Bool) (F : Nat → Prop) (w W : World) : Prop where
 os : W.os = w.os
 tape : W.tape = w.tape
 output : W.output = w.output
 drawn : sO dd w.drawn W.drawn
 size : w.heap.size ≤ W.heap.size
 lZ : ∀ b, b < w.heap.size → ¬ F b → W.heap[b]? = w.heap[b]?
def Er (L : List (Nat × Obj)) (W : World) : Prop := ∀ b o, (b, o) ∈ L → W.heap[b]? = some o
structure tF (dd : Bool) (L0 L1 : List (Nat × Obj)) (w w' : World) : Prop where
 ex : TO dd (keys L0) w w'
 held : ∀ b o, (b, o) ∈ L1 → w'.heap[b]? = some o ∧ (w.heap.size ≤ b ∨ keys L0 b)
 nd : (L1.map (·.1)).Nodup
open Classical in
noncomputable def uc (w : World) (L : List (Nat × Obj)) : kk := fun b => if keys L b then none else w.heap[b]?
open Classical in
noncomputable def By (μ : kk) (W W' : World) (L1 : List (Nat × Obj)) : kk := fun b => if b < W.heap.size then μ b else if keys L1 b then none else W'.heap[b]?
section
variable {F : Nat → Prop} {w W W' : World} {μ μ' : kk} {L L0 L1 : List (Nat × Obj)}
theorem ST.Rw (d : Er L0 w) (g : (L0.map (·.1)).Nodup) : ST dd (keys L0) w w (uc w L0) L0 :=
 ⟨rfl, rfl, rfl, sO.of (aW _), aW _, fun _ _ _ => rfl, fun b o h => by
  unfold uc at h; split at h
  ·cases h
  ·exact h, fun b o h => ⟨d b o h, by unfold uc; rw [bB ⟨o, h⟩], .inr ⟨o, h⟩⟩, g⟩
theorem ER {A B : List (Nat × Obj)} (h : ((A ++ B).map (·.1)).Nodup) {b : Nat} {o : Obj} (d : (b, o) ∈ B) : ¬ keys A b := by
 rintro ⟨i, g⟩
 rw [cE] at h
 exact (bY.1 h).2.2 b (bM.2 ⟨_, g, rfl⟩) b (bM.2 ⟨_, d, rfl⟩) rfl
theorem ST.back (h : ST dd F w W μ (L0 ++ L)) (j : tF dd L0 L1 W W') : ST dd F w W' (By μ W W' L1) (L1 ++ L) := by
 have hk : ∀ b, keys L0 b → b < W.heap.size ∧ μ b = none ∧ (w.heap.size ≤ b ∨ F b) := fun b ⟨o, d⟩ => by
  obtain ⟨h1, g, n⟩ := h.box b o (cK _ d)
  exact ⟨nQ h1, g, n⟩
 refine ⟨j.ex.os.trans h.os, j.ex.tape.trans h.tape, j.ex.output.trans h.output, sO.trans h.drawn j.ex.drawn, dL h.size j.ex.size, fun b i p => ?_, fun b o d => ?_, fun b o d => ?_, ?_⟩
 ·rw [j.ex.lZ b (ee i h.size) (fun l => by
   rcases (hk b l).2.2 with h | h
   ·omega
   ·exact p h)]
  exact h.lZ b i p
 ·unfold By at d
  split at d
  ·rename_i i
   rw [j.ex.lZ b i (fun l => by rw [(hk b l).2.1] at d; cases d)]
   exact h.mem b o d
  ·split at d
   ·cases d
   ·exact d
 ·rcases aU.1 d with d | d
  ·obtain ⟨h1, g⟩ := j.held b o d
   refine ⟨h1, ?_, ?_⟩
   ·unfold By
    split
    ·rename_i i
     rcases g with g | g
     ·omega
     ·exact (hk b g).2.1
    ·rw [bB ⟨o, d⟩]
   ·rcases g with g | g
    ·exact .inl (dL h.size g)
    ·exact (hk b g).2.2
  ·obtain ⟨h1, g, n⟩ := h.box b o (dY _ d)
   refine ⟨?_, ?_, n⟩
   ·rw [j.ex.lZ b (nQ h1) (ER h.nd d)]; exact h1
   ·unfold By; rw [bB (nQ h1)]; exact g
 ·rw [cE]
  have r : (L.map (·.1)).Nodup := by have := h.nd; rw [cE] at this; exact (bY.1 this).2.1
  refine bY.2 ⟨j.nd, r, fun a ha c s e => ?_⟩
  subst e
  obtain ⟨⟨b, o⟩, d, rfl⟩ := bM.1 ha
  obtain ⟨⟨q, t⟩, m, e⟩ := bM.1 s
  simp at e; subst e
  have i := h.DW (dY _ m)
  rcases (j.held q o d).2 with g | g
  ·omega
  ·exact ER h.nd m g
theorem ST.J0 (h : ST dd F w W μ L) (W' : World) (L1 : List (Nat × Obj)) : Lo F w μ (By μ W W' L1) := fun b d _ => bB (ee d h.size)
theorem ST.H0 (h : ST dd F w W μ L) (W' : World) (L1 : List (Nat × Obj)) : kf μ (By μ W W' L1) := fun b o d => by
 unfold By; rw [bB (h.CR d)]; exact d
theorem ST.kL (h : ST dd F w W μ L) (g : ∀ p, p ∈ L0 → p ∈ L) : kf μ (uc W L0) := fun b o d => by
 unfold uc
 rw [bo]
 ·exact h.mem b o d
 ·rintro ⟨j, i⟩
  rw [(h.box b j (g _ i)).2.1] at d
  cases d
theorem tF.IH (h : Ex dd w W) (g : ∀ b o, (b, o) ∈ L1 → W.heap[b]? = some o ∧ w.heap.size ≤ b) (i : (L1.map (·.1)).Nodup) : tF dd [] L1 w W :=
 ⟨⟨h.os, h.tape, h.output, h.drawn, h.size, fun b d _ => h.lZ b d⟩, fun b o d => ⟨(g b o d).1, .inl (g b o d).2⟩, i⟩
end
def lH (dd : Bool) (P : Program) (f : FuncId) (args : List Value) (w : World) (L0 : List (Nat × Obj)) (K : Value → List (Nat × Obj) → World → Prop) : Prop :=
 Calls P f args.toArray w fun e b => ∃ v L1, e = .returned v ∧ tF dd L0 L1 w b ∧ K v L1 b
def kY (dd : Bool) {α : Type} (P : Program) (f : FuncId) (args : List Value) (w : World) (e : TypeId) (enc : α → List Value) (k : Nat) (l : List α) : Prop :=
 lH dd P f args w [] fun v R _ => jX e enc k v l R
theorem tF.lz {L0 L1 : List (Nat × Obj)} {w b : World} (h : tF true L0 L1 w b) : tF dd L0 L1 w b := ⟨⟨h.ex.os, h.ex.tape, h.ex.output, sO.of (h.ex.drawn rfl), h.ex.size, h.ex.lZ⟩, h.held, h.nd⟩
theorem jT.lz {P : Program} {f : FuncId} {args : List Value} {w : World} {v : Value} (h : jT true P f args w v) : jT dd P f args w v := dr h fun _ _ h => ⟨h.1, h.2.lz⟩
theorem lH.lz {P : Program} {f : FuncId} {args : List Value} {w : World} {L0 : List (Nat × Obj)} {K : Value → List (Nat × Obj) → World → Prop} (h : lH true P f args w L0 K) : lH dd P f args w L0 K := dr h fun _ _ ⟨v, L1, h1, b, d⟩ => ⟨v, L1, h1, b.lz, d⟩
theorem kY.lz {α : Type} {P : Program} {f : FuncId} {args : List Value} {w : World} {e : TypeId} {enc : α → List Value} {k : Nat} {l : List α} (h : kY true P f args w e enc k l) : kY dd P f args w e enc k l := lH.lz h
section
variable {P : Program} {E : Nat → Value} {W : World} {d : Option Nat} {ty : TypeId} {pos : String} {af : Array Edge} {g : Option (Nat × Bool)}
 {F : Nat → Prop} {w : World} {μ : kk} {L : List (Nat × Obj)}
theorem Oy {K : Value → World → Prop} {K' : Value → List (Nat × Obj) → World → Prop} {f : FuncId} {fv : Operand} {ax : Array Operand} {ats : Array TypeId} {b : Array Value} {args : List Value} (L0 L2 : List (Nat × Obj)) (i : ST dd F w W μ L) (j : L.Perm (L0 ++ L2)) (p : jH E fv = .func (.func f) #[] b) (he : ∀ args w, (callFunc f args).run P w = .ok (.enter f args) w) (ha : ax.map (jH E) ++ b = args.toArray) (n : lH dd P f args W L0 K') (h : ∀ W' v μ' L1, ST dd F w W' μ' (L1 ++ L2) → kf μ μ' → Lo F w μ μ' → K' v L1 W' → K v W') : mY P E ⟨d, .call ⟨.value fv, ax, ats⟩, ty, pos, af, g⟩ W K :=
 EQ p he ha (dr n (fun _ W' ⟨v, L1, h1, l, m⟩ => ⟨v, h1, h W' v _ L1 ((i.perm j).back l) ((i.perm j).H0 W' L1) ((i.perm j).J0 W' L1) m⟩))
theorem LZ {K : Value → World → Prop} {α : Type} {e : TypeId} {enc : α → List Value} {k : Nat} {l : List α} {f : FuncId} {fv : Operand} {ax : Array Operand} {ats : Array TypeId} {b : Array Value} {args : List Value} (X Y : List (Nat × Obj)) (i : ST dd F w W μ (X ++ Y)) (q : jH E fv = .func (.func f) #[] b) (he : ∀ args w, (callFunc f args).run P w = .ok (.enter f args) w) (ha : ax.map (jH E) ++ b = args.toArray) (p : kY dd P f args W e enc k l) (h : ∀ W' v μ' R, ST dd F w W' μ' (X ++ (R ++ Y)) → kf μ μ' → Lo F w μ μ' → jX e enc k v l R → K v W') : mY P E ⟨d, .call ⟨.value fv, ax, ats⟩, ty, pos, af, g⟩ W K :=
 Oy [] (X ++ Y) i (.refl _) q he ha p (fun W' v μ' L1 h1 j n m => h W' v μ' L1 (h1.perm (by rw [← aN, ← aN]; exact List.perm_append_comm.append_right Y)) j n m)
end
theorem ST.mC {w W : World} {μ : kk} {L R : List (Nat × Obj)} (h : ST dd kp w W μ L) (d : ∀ p, p ∈ R → p ∈ L) (i : (R.map (·.1)).Nodup) : tF dd [] R w W :=
 tF.IH h.ex (fun b o g => ⟨(h.box b o (d _ g)).1, by
  rcases (h.box b o (d _ g)).2.2 with h | h
  ·exact h
  ·exact h.elim⟩) i
theorem ns {P : Program} {E : Nat → Value} {W : World} {d : Option Nat} {ty : TypeId} {pos : String} {af : Array Edge} {g : Option (Nat × Bool)} {α : Type} {e' : TypeId} {enc : α → List Value} {k : Nat} {v : Value} {l : List α} {R : List (Nat × Obj)} {x : Operand} {t e : TypeId} (b : P.underlying t = some (.slice e)) (i : jH E x = v) (h : jX e' enc k v l R) : lR P E ⟨d, .call ⟨.builtin .len, #[x], #[t]⟩, ty, pos, af, g⟩ W (.int .i64 l.length) W := by
 obtain ⟨A, c, rfl⟩ := h.form
 exact ze b i
section
variable {α : Type} {e : TypeId} {enc : α → List Value} {k : Nat} {v : Value} {l : List α} {R : List (Nat × Obj)}
theorem jX.nd (h : jX e enc k v l R) : (R.map (·.1)).Nodup := by
 rcases h with ⟨rfl, rfl, rfl⟩ | ⟨g, cap, b, rfl, rfl, _⟩ <;> simp
end
end Go.Proofs.YtjjjihkifgdhgaaGreatDoor
namespace Go.Proofs.YtjjjihkifgdhgaaGreatDoor
open Go.RowKit
variable {dd : Bool}
def yH (R : List (Nat × Obj)) (k : Nat) (p : Value) (i : Nat) : Prop := ∃ g o, R = [(g, o)] ∧ p = .pointer (some ⟨g, i * k, none⟩)
section
variable {P : Program} {E : Nat → Value} {W : World} {d : Option Nat} {ty : TypeId} {pos : String} {af : Array Edge} {g : Option (Nat × Bool)}
 {F : Nat → Prop} {w : World} {μ : kk} {L : List (Nat × Obj)} {α : Type} {e' : TypeId} {enc : α → List Value} {k : Nat} {v : Value} {l : List α} {R : List (Nat × Obj)}
theorem nv {t e : TypeId} {x j : Operand} {A : IntKind} {i : Int} {x0 : α} (y : P.underlying t = some (.slice e)) (he : ∀ w, (sizeOf e).run P w = .ok k w) (z : jH E x = v) (s : jH E j = .int A i) (h : jX e' enc k v l R) (q : 0 ≤ i) (u : l[i.toNat]? = some x0) :
  ∃ p, yH R k p i.toNat ∧ ∀ W, lR P E ⟨d, .indexAddr t x j, ty, pos, af, g⟩ W p W := by
 have b : i.toNat < l.length := (bH.1 u).1
 rcases h with ⟨rfl, rfl, rfl⟩ | ⟨n, cap, m, rfl, rfl, h1, G, I, J⟩
 ·simp at b
 refine ⟨.pointer (some ⟨n, i.toNat * k, none⟩), ⟨_, _, rfl, rfl⟩, fun W => ?_⟩
 show (do pure (.value (← Instr.indexAt t (jH E x) (jH E j))) : Sem Next).run P W = _
 rw [z, s]
 have r : 0 ≤ i ∧ i < (l.length : Int) := ⟨q, by omega⟩
 simp [Instr.indexAt, asIntOf, aY y, he W, r, dD]
theorem AG (h : jX e' enc k v l R) (hk : ∀ x, (enc x).length = k) {p : Value} {i : Nat} (hp : yH R k p i) {x0 : α} (q : l[i]? = some x0) :
  ∃ g b cap, R = [(g, .cells b e' (0, 0))] ∧ v = .slice (some ⟨g, 0, none⟩) l.length cap ∧ l.length ≤ cap ∧ cap ≤ maxLen ∧ b.size = cap * k ∧ b.toList.take (l.length * k) = (l.map enc).flatten ∧ p = .pointer (some ⟨g, i * k, none⟩) ∧ ∀ j y, (enc x0)[j]? = some y → b[i * k + j]? = some y := by
 have m : i < l.length := (bH.1 q).1
 rcases h with ⟨rfl, rfl, rfl⟩ | ⟨s, cap, b, rfl, rfl, h1, t, u, n⟩
 ·simp at m
 obtain ⟨g2, o, r, rfl⟩ := hp
 cases r
 refine ⟨s, b, cap, rfl, rfl, h1, t, u, n, rfl, fun j y w => ?_⟩
 have := xQ hk l i x0 q j y w
 rw [← n] at this
 have d : i * k + j < l.length * k := by
  have := (bH.1 this).1
  simp at this; omega
 rw [dA d] at this
 simpa using this
theorem tj {A : List (Nat × Obj)} (hH : nn μ A W) (g : ∀ q, q ∈ R → q ∈ A) (h : jX e' enc k v l R) (hk : ∀ x, (enc x).length = k) {p : Value} {i : Nat} (hp : yH R k p i) {x0 : α} (n : l[i]? = some x0) {t : TypeId} (j : ∀ w, (isAgg t).run P w = .ok true w) (m : ∀ w, (sizeOf t).run P w = .ok k w) : (Instr.loadAt t p).run P W = .ok (.agg (enc x0).toArray) W := by
 obtain ⟨r, b, cap, rfl, rfl, _, _, _, _, rfl, d⟩ := AG h hk hp n
 exact B7 j (enc x0) (by rw [hk]; exact m) (hH.2 _ _ (g _ (bV.2 rfl))) d
theorem CN {A : List (Nat × Obj)} (hH : nn μ A W) (g : ∀ q, q ∈ R → q ∈ A) (h : jX e' enc k v l R) (hk : ∀ x, (enc x).length = k) {p : Value} {i : Nat} (hp : yH R k p i) {x0 : α} (m : l[i]? = some x0) {t : TypeId} {y : Value} (n : enc x0 = [y]) (j : ∀ w, (isAgg t).run P w = .ok false w) : (Instr.loadAt t p).run P W = .ok y W := by
 obtain ⟨r, b, cap, rfl, rfl, _, _, _, _, rfl, d⟩ := AG h hk hp m
 exact BX j (hH.2 _ _ (g _ (bV.2 rfl))) (d 0 y (by rw [n]; rfl))
theorem FD (hk : ∀ x, (enc x).length = k) : ∀ (l : List α) (i : Nat) (y : α), i < l.length → ((l.set i y).map enc).flatten = (l.map enc).flatten.take (i * k) ++ enc y ++ (l.map enc).flatten.drop (i * k + k)
 | [], i, y, h => by simp at h
 | z :: l, 0, y, h => by
  simp [hk]
 | z :: l, i + 1, y, h => by
  have := FD hk l i y (by simpa using h)
  simp only [List.set_cons_succ, bJ, bO, this]
  have h1 : (i + 1) * k = (enc z).length + i * k := by rw [hk, cP]; omega
  rw [h1, gS, eo, List.drop_length_add_append]
  simp
theorem Mb {K : Value → World → Prop} (X : List (Nat × Obj)) {Y : List (Nat × Obj)} {t : TypeId} {x y : Operand} {p u : Value} {i : Nat} {x0 x1 : α} (m : ST dd F w W μ (X ++ (R ++ Y))) (h : jX e' enc k v l R) (hk : ∀ x, (enc x).length = k) (h1 : ∀ x, ∀ u ∈ enc x, u.oneCell' = true) (Z : jH E x = p) (hy : jH E y = u) (hu : u.cells = (enc x1).toArray) (hp : yH R k p i) (I : l[i]? = some x0) (T : ∀ w, (sizeOf t).run P w = .ok k w) (Q : ∀ W' R', ST dd F w W' μ (X ++ (R' ++ Y)) → jX e' enc k v (l.set i x1) R' → K undef W') : mY P E ⟨d, .store t x y, ty, pos, af, g⟩ W K := by
 have z : i < l.length := (bH.1 I).1
 obtain ⟨q, b, cap, rfl, rfl, G, M, s, O, rfl, h6⟩ := AG h hk hp I
 have hle : i * k + k ≤ cap * k := by
  have : (i + 1) * k ≤ cap * k := cQ _ (by omega)
  rwa [cP, ji] at this
 have n : i * k + k ≤ l.length * k := by
  have : (i + 1) * k ≤ l.length * k := cQ _ (by omega)
  rwa [cP, ji] at this
 have j : u.cells.size = k := by rw [hu]; simp [hk]
 have U := (m.box q (.cells b e' (0, 0)) (by simp)).1
 have hlen : l.length * k ≤ cap * k := cQ _ G
 refine .inr (.inl ⟨W.setRow q (b.toList.take (i * k) ++ (enc x1) ++ b.toList.drop (i * k + k)).toArray, ?_, Q _ [(q, .cells (b.toList.take (i * k) ++ (enc x1) ++ b.toList.drop (i * k + k)).toArray e' (0, 0))] (m.store _) (.inr ⟨q, cap, _, by simp, rfl, by simpa using G, M, ?_, ?_⟩)⟩)
 ·show (do Instr.storeAt t (jH E x) (jH E y); pure .skip : Sem Next).run P W = _
  rw [Z, hy]
  have := Ca P (off := i * k) u (by rw [j]; exact T) (by rw [hu]; simpa using h1 x1) U (by rw [j, s]; exact hle)
  simp only [cH, this, bQ, dz, j]
  rw [hu]
 ·show ((b.toList.take (i * k) ++ (enc x1) ++ b.toList.drop (i * k + k)).toArray).size = _
  have r : b.toList.length = cap * k := by simpa using s
  rw [dH, aF, aF, dp, fI, hk, r, dO (by omega)]; omega
 ·rw [gL, FD hk l i x1 z, ← O]
  have J : (b.toList.take (l.length * k)).take (i * k) = b.toList.take (i * k) := by rw [gj]; congr 1; omega
  have L : (b.toList.take (l.length * k)).drop (i * k + k) = (b.toList.drop (i * k + k)).take (l.length * k - (i * k + k)) := by rw [gZ]
  rw [J, L]
  show List.take (l.length * k) (b.toList.take (i * k) ++ enc x1 ++ b.toList.drop (i * k + k)) = _
  have r : b.toList.length = cap * k := by simpa using s
  have A : (b.toList.take (i * k) ++ enc x1).length = i * k + k := by rw [aF, dp, hk, r, dO (by omega)]
  rw [fc, dM (by rw [A]; exact n), A]
theorem Ec (hk : ∀ x, (enc x).length = k) : ∀ (l : List α) (i : Nat), i ≤ l.length → ((l.take i).map enc).flatten = (l.map enc).flatten.take (i * k)
 | [], i, h => by simp
 | z :: l, 0, h => by simp
 | z :: l, i + 1, h => by
  have := Ec hk l i (by simpa using h)
  simp only [List.take_succ_cons, bJ, bO, this]
  rw [show (i + 1) * k = (enc z).length + i * k by rw [hk, cP]; omega, gS]
theorem Bq {t e : TypeId} {x ih : Operand} {J : IntKind} {i : Int} (p : P.underlying t = some (.slice e)) (he : ∀ w, (sizeOf e).run P w = .ok k w) (q : jH E x = v) (n : jH E ih = .int J i) (h : jX e' enc k v l R) (hk : ∀ x, (enc x).length = k) (u : 0 ≤ i) (I : i ≤ l.length) :
  ∃ r, jX e' enc k r (l.take i.toNat) R ∧ ∀ W, lR P E ⟨d, .slice t x none (some ih) none, ty, pos, af, g⟩ W r W := by
 have b : i.toNat ≤ l.length := by omega
 rcases h with ⟨rfl, rfl, rfl⟩ | ⟨m, cap, j, rfl, rfl, h1, y, z, A⟩
 ·have : i = 0 := by simp at I; omega
  subst this
  refine ⟨.slice none 0 0, .inl ⟨rfl, by simp, rfl⟩, fun W => ?_⟩
  show (do pure (.value (← Instr.sliceAt t (jH E x) none (some (jH E ih)) none)) : Sem Next).run P W = _
  rw [q, n]
  simp [Instr.sliceAt, Instr.slice, Instr.sliceBounds, Instr.sliceBound, asIntOf, aY p, he W]
 ·refine ⟨.slice (some ⟨m, 0, none⟩) (l.take i.toNat).length cap, .inr ⟨m, cap, j, rfl, rfl, by simp; omega, y, z, ?_⟩, fun W => ?_⟩
  ·have s : (l.take i.toNat).length = i.toNat := by rw [dp]; omega
   have hle : i.toNat * k ≤ l.length * k := cQ _ b
   rw [s, Ec hk l i.toNat b, ← A, gj, dO hle]
  ·show (do pure (.value (← Instr.sliceAt t (jH E x) none (some (jH E ih)) none)) : Sem Next).run P W = _
   rw [q, n]
   have G : 0 ≤ i ∧ i ≤ (cap : Int) := ⟨u, by omega⟩
   simp [Instr.sliceAt, Instr.slice, Instr.sliceBounds, Instr.sliceBound, asIntOf, aY p, he W, G, dD]
   omega
theorem BY {u : pI α} {t e : TypeId} {x r : Operand} {ik : IntKind} {i : Int} (Z : P.underlying t = some (.slice e)) (he : ∀ w, (sizeOf e).run P w = .ok k w) (n : jH E x = v) (Q : jH E r = .int ik i) (h : Sl u k μ v l) (z : 0 ≤ i) (R : i ≤ l.length) :
  ∃ s, (Sl u k μ s (l.drop i.toNat) ∧ ∀ B, Fr B v → Fr B s) ∧ ∀ W, lR P E ⟨d, .slice t x (some r) none none, ty, pos, af, g⟩ W s W := by
 obtain ⟨A, c, rfl, h2, h3, G⟩ := h
 have U : i.toNat ≤ l.length := by omega
 refine ⟨.slice (if c = i.toNat then A else A.map (·.add (i.toNat * k))) (l.drop i.toNat).length (c - i.toNat), ⟨⟨_, _, rfl, by simp; omega, by omega, fun hp => ?_⟩, fun B O b m => ?_⟩, fun W => ?_⟩
 ·have Y : i.toNat < l.length := by simp at hp; omega
  obtain ⟨b, off, cs, T, fr, rfl, I, J⟩ := G (by omega)
  refine ⟨b, off + i.toNat * k, cs, T, fr, ?_, I, fun j x n => ?_⟩
  ·rw [bo (by omega)]; simp [dD]
  ·rw [dW] at n
   obtain ⟨ys, L, M, p⟩ := J _ x n
   refine ⟨ys, L, M, fun q y hy => ?_⟩
   have := p q y hy
   rw [cP] at this
   rw [show off + i.toNat * k + j * k + q = off + (i.toNat * k + j * k) + q by omega]
   exact this
 ·refine O b ?_
  cases A with
  | none => simp [Value.ownBlock] at m
  | some a =>
   split at m
   ·exact m
   ·obtain ⟨b', o', s'⟩ := a
    cases s' <;> simp [Value.ownBlock, Addr.add] at m ⊢ <;> split at m <;> exact m
 ·show (do pure (.value (← Instr.sliceAt t (jH E x) (some (jH E r)) none none)) : Sem Next).run P W = _
  rw [n, Q]
  have m : 0 ≤ i ∧ i ≤ (l.length : Int) := ⟨z, R⟩
  simp [Instr.sliceAt, Instr.slice, Instr.sliceBounds, Instr.sliceBound, asIntOf, aY Z, he W, m]
end
end Go.Proofs.YtjjjihkifgdhgaaGreatDoor
namespace Go.Proofs.YtjjjihkifgdhgaaGreatDoor
open Go.RowKit
variable {dd : Bool}
section
variable {α : Type} {e : TypeId} {enc : α → List Value} {k : Nat} {v : Value} {l : List α} {R : List (Nat × Obj)} {μ : kk}
theorem jX.one (h : jX e enc k v l R) : v.oneCell' = true := by obtain ⟨A, c, rfl⟩ := h.form; rfl
theorem Sl.one {b : pI α} (h : Sl b k μ v l) : v.oneCell' = true := by obtain ⟨A, c, rfl⟩ := h.form; rfl
theorem Sl.isNil {g : pI α} {n c : Nat} (h : Sl g k μ (.slice none n c) l) : l = [] := by
 obtain ⟨A, m, h1, p, q, i⟩ := h
 cases h1
 rcases ef l.length with d | d
 ·exact ei.1 d
 ·obtain ⟨b, off, cs, T, fr, j, _⟩ := i d
  cases j
theorem jX.isNil {n c : Nat} (h : jX e enc k (.slice none n c) l R) : l = [] := by
 rcases h with ⟨h1, rfl, rfl⟩ | ⟨g, cap, b, h1, _⟩
 ·rfl
 ·cases h1
theorem ST.Sm {w W : World} {μ : kk} {L1 L2 : List (Nat × Obj)} (h : ST dd kp w W μ (L1 ++ L2)) : tF dd [] L1 w W :=
 tF.IH h.ex (fun b o d => ⟨(h.box b o (cK _ d)).1, by
  rcases (h.box b o (cK _ d)).2.2 with h | h
  ·exact h
  ·exact h.elim⟩) (by have := h.nd; rw [cE] at this; exact (bY.1 this).1)
theorem ST.Sw {w W : World} {μ : kk} {L0 L1 L2 : List (Nat × Obj)} (h : ST dd (keys L0) w W μ (L1 ++ L2)) : tF dd L0 L1 w W :=
 ⟨⟨h.os, h.tape, h.output, h.drawn, h.size, h.lZ⟩, fun b o d => ⟨(h.box b o (cK _ d)).1, (h.box b o (cK _ d)).2.2⟩, by have := h.nd; rw [cE] at this; exact (bY.1 this).1⟩
end
end Go.Proofs.YtjjjihkifgdhgaaGreatDoor
namespace Go.Proofs.YtjjjihkifgdhgaaGreatDoor
open Go.RowKit
variable {dd : Bool}
def kZ {κ β : Type} (beq : κ → κ → Bool) (l : List (κ × β)) (k : κ) : Option β := (l.find? (fun p => beq k p.1)).map (·.2)
def nT {κ β : Type} (beq : κ → κ → Bool) (l : List (κ × β)) (k : κ) (v : β) : List (κ × β) :=
 match l.findIdx? (fun p => beq k p.1) with
 | some i => l.set i (k, v)
 | none => l ++ [(k, v)]
structure ur {κ β : Type} (kenc : κ → Value) (vf : β → Value) (l : List (κ × β)) (es : Array MapEntry) (clock : Nat) : Prop where
 EZ : es.toList.map (fun e => (e.key, e.val)) = l.map (fun p => (kenc p.1, vf p.2))
 born : es.toList.Pairwise (fun a b => a.born < b.born)
 lt : ∀ e ∈ es.toList, e.born < clock
def lN {κ β : Type} (kenc : κ → Value) (vf : β → Value) (v : Value) (l : List (κ × β)) (R : List (Nat × Obj)) : Prop :=
 ∃ m es clock, v = .map (some m) ∧ R = [(m, .map es clock)] ∧ ur kenc vf l es clock
def vR {κ β : Type} (kenc : κ → Value) (vf : β → Value) (μ : kk) (v : Value) (l : List (κ × β)) : Prop :=
 (v = .map none ∧ l = []) ∨ ∃ m es clock, v = .map (some m) ∧ μ m = some (.map es clock) ∧ ur kenc vf l es clock
theorem vR.mono {κ β : Type} {kenc : κ → Value} {vf : β → Value} {μ μ' : kk} {v : Value} {l : List (κ × β)} (h : vR kenc vf μ v l) (g : kf μ μ') : vR kenc vf μ' v l := by
 rcases h with h | ⟨m, es, clock, h1, b, d⟩
 ·exact .inl h
 ·exact .inr ⟨m, es, clock, h1, g _ _ b, d⟩
theorem lN.at {κ β : Type} {kenc : κ → Value} {vf : β → Value} {μ : kk} {v : Value} {l : List (κ × β)} {R : List (Nat × Obj)} (h : lN kenc vf v l R) (g : ∀ b o, (b, o) ∈ R → μ b = some o) : vR kenc vf μ v l := by
 obtain ⟨m, es, clock, rfl, rfl, d⟩ := h
 exact .inr ⟨m, es, clock, rfl, g _ _ (bV.2 rfl), d⟩
structure pc {κ : Type} (P : Program) (kt : TypeId) (kenc : κ → Value) (beq : κ → κ → Bool) : Prop where
 check : ∀ b k W, (Instr.checkKey b 10000 kt (kenc k)).run P W = .ok () W
 find : ∀ (k : κ) (l : List κ) (es : List MapEntry), es.map (·.key) = l.map kenc → ∀ W, (Instr.findKey kt (kenc k) es).run P W = .ok ((l.findIdx? (fun x => beq k x)).bind fun i => (es[i]?).map fun e => (i, e.val)) W
 eq : ∀ k x, beq k x = true → kenc x = kenc k
 bits : ∀ k, Instr.sameBits 10000 (kenc k) (kenc k) = true
section
variable {P : Program} {W : World} {κ : Type} {kt : TypeId} {kenc : κ → Value} {beq : κ → κ → Bool}
theorem Cl (b : ∀ x y W, (Op.equal kt (kenc x) (kenc y)).run P W = .ok (beq x y) W) (k : κ) : ∀ (l : List κ) (es : List MapEntry) (i : Nat), es.map (·.key) = l.map kenc →
  (Instr.findAsking kt (kenc k) es i).run P W = .ok ((l.findIdx? (fun x => beq k x)).bind fun j => (es[j]?).map fun e => (i + j, e.val)) W
 | [], [], i, h => by simp [Instr.findAsking]
 | [], _ :: _, i, h => by simp at h
 | _ :: _, [], i, h => by simp at h
 | x :: l, e :: es, i, h => by
  simp only [bJ, aZ] at h
  obtain ⟨h1, d⟩ := h
  simp only [Instr.findAsking, cH, h1, b, bQ, eS]
  cases g : beq k x with
  | true => simp
  | false =>
   simp only [aB, aJ]
   rw [Cl b k l es (i + 1) d]
   cases l.findIdx? (fun x => beq k x) with
   | none => rfl
   | some j => simp [eo, Nat.add_comm 1 j]
theorem Km {kind : TypeDesc} (hk : ∀ a b, Instr.sameNow kind (.agg a) b = none) (a : Array Value) : ∀ (es : List MapEntry) (i : Nat), Instr.findNow kind (.agg a) es i = if es = [] then some none else none
 | [], i => by simp [Instr.findNow]
 | e :: es, i => by simp [Instr.findNow, hk]
theorem pc.struct {enc : κ → List Value} {fs : Array Field} (p : P.underlying kt = some (.struct fs)) (n : ∀ d x y W, (Op.equalIn (d + 10) kt (.agg (enc x).toArray) (.agg (enc y).toArray)).run P W = .ok (beq x y) W) (m : ∀ b k W, (Instr.checkKey b 10000 kt (.agg (enc k).toArray)).run P W = .ok () W) (he : ∀ k x, beq k x = true → x = k) (j : ∀ k, Instr.sameBits 10000 (.agg (enc k).toArray) (.agg (enc k).toArray) = true) : pc P kt (fun x => .agg (enc x).toArray) beq where
 check := m
 find := fun k l es h W => by
  have g : ∀ x y W, (Op.equal kt (.agg (enc x).toArray) (.agg (enc y).toArray)).run P W = .ok (beq x y) W := fun x y W => n 9990 x y W
  simp only [Instr.findKey, cH, aY p, bQ]
  rw [Km (fun a b => by cases b <;> rfl)]
  by_cases i : es = []
  ·subst i
   have : l = [] := by simpa using h.symm
   subst this
   simp
  ·rw [bo i]
   dsimp only
   rw [show Instr.findAsking kt (.agg (enc k).toArray) es = Instr.findAsking kt (.agg (enc k).toArray) es 0 from rfl, Cl g k l es 0 h]
   simp
 eq := fun k x h => by rw [he k x h]
 bits := j
theorem lW {a b : ByteArray} : kP a b = true ↔ a = b := by
 unfold kP
 rw [fa, fa]
 constructor
 ·intro h
  have h1 : a.data.toList = b.data.toList := by simpa using h
  exact fR (Array.toList_inj.1 h1)
 ·rintro rfl
  simp
theorem DY (a b : ByteArray) : (a == b) = kP a b := by
 rw [bL, lW]
 constructor
 ·intro h
  have h1 : (a.data == b.data) = true := h
  exact fR (by simpa using h1)
 ·rintro rfl
  show (a.data == a.data) = true
  simp
theorem Cs (k : ByteArray) : ∀ (l : List ByteArray) (es : List MapEntry) (i : Nat), es.map (·.key) = l.map Value.string →
  Instr.findNow .string (.string k) es i = some ((l.findIdx? (fun x => kP k x)).bind fun j => (es[j]?).map fun e => (i + j, e.val))
 | [], [], i, h => by simp [Instr.findNow]
 | [], _ :: _, i, h => by simp at h
 | _ :: _, [], i, h => by simp at h
 | x :: l, e :: es, i, h => by
  simp only [bJ, aZ] at h
  obtain ⟨h1, b⟩ := h
  simp only [Instr.findNow, h1, Instr.sameNow, DY, eS]
  cases d : kP k x with
  | true => simp
  | false =>
   simp only [aB, aJ]
   rw [Cs k l es (i + 1) b]
   cases l.findIdx? (fun x => kP k x) with
   | none => rfl
   | some j => simp [eo, Nat.add_comm 1 j]
theorem yp (d : P.underlying kt = some .string) (n : Nat) (b : Bool) (k : ByteArray) (W : World) : (Instr.checkKey b (n + 1) kt (.string k)).run P W = .ok () W := by
 simp [Instr.checkKey, aY d]
theorem pc.string (d : P.underlying kt = some .string) : pc P kt Value.string kP where
 check := fun b k W => yp d 9999 b k W
 find := fun k l es h W => by
  simp only [Instr.findKey, cH, aY d, bQ]
  have := Cs k l es 0 h
  rw [this]
  simp
 eq := fun k x h => by rw [lW.1 h]
 bits := fun k => by simp only [Instr.sameBits]; rw [DY]; exact lW.2 rfl
variable {β : Type} {vf : β → Value} {E : Nat → Value} {d : Option Nat} {ty : TypeId} {pos : String} {af : Array Edge} {g : Option (Nat × Bool)} {F : Nat → Prop} {w : World} {μ : kk} {L : List (Nat × Obj)}
theorem ur.keys {l : List (κ × β)} {es : Array MapEntry} {clock : Nat} (h : ur kenc vf l es clock) : es.toList.map (·.key) = (l.map (·.1)).map kenc := by
 have := bD (List.map Prod.fst) h.EZ
 simpa [fB] using this
theorem ur.length {l : List (κ × β)} {es : Array MapEntry} {clock : Nat} (h : ur kenc vf l es clock) : es.size = l.length := by
 have := bD List.length h.EZ
 simpa using this
theorem ur.get {l : List (κ × β)} {es : Array MapEntry} {clock : Nat} (h : ur kenc vf l es clock) (k : κ) :
  (((l.map (·.1)).findIdx? (fun x => beq k x)).bind fun i => (es.toList[i]?).map fun e => (i, e.val)) = (l.findIdx? (fun p => beq k p.1)).bind fun i => (l[i]?).map fun p => (i, vf p.2) := by
 rw [gk]
 show ((l.findIdx? (fun p => beq k p.1)).bind _) = _
 congr 1
 funext i
 have := bD (fun q => q[i]?) h.EZ
 simp only [eC] at this
 cases h1 : es.toList[i]? with
 | none => rw [h1] at this; cases b : l[i]? with
  | none => rfl
  | some p => rw [b] at this; cases this
 | some e => rw [h1] at this; cases b : l[i]? with
  | none => rw [b] at this; cases this
  | some p => rw [b] at this; simp at this; simp [this.2]
theorem xK (l : List (κ × β)) (k : κ) : kZ beq l k = (l.findIdx? (fun p => beq k p.1)).bind fun i => (l[i]?).map (·.2) := by
 induction l with
 | nil => rfl
 | cons p l ih =>
  simp only [kZ, fV, eS] at ih ⊢
  cases beq k p.1 with
  | true => rfl
  | false =>
   simp only [aB, aJ]
   rw [ih]
   cases l.findIdx? (fun p => beq k p.1) <;> simp
theorem I3 {t e : TypeId} {m x : Operand} {u z : Value} {l : List (κ × β)} {k : κ} (K : pc P kt kenc beq) (r : P.underlying t = some (.map kt e)) (h : ∀ w, (zeroValue e).run P w = .ok z w) (hm : jH E m = u) (G : jH E x = kenc k) (y : vR kenc vf (hp W) u l) :
  lR P E ⟨d, .lookup t m x false, ty, pos, af, g⟩ W (((kZ beq l k).map vf).getD z) W := by
 show (do pure (.value (← Instr.lookup t (jH E m) (jH E x) false)) : Sem Next).run P W = _
 rw [hm, G]
 rcases y with ⟨rfl, rfl⟩ | ⟨s, es, clock, rfl, A, j⟩
 ·have := K.find k [] [] rfl W
  simp [Instr.lookup, aY r, K.check, this, h W, kZ]
 ·have b : W.heap[s]? = some (.map es clock) := A
  have v : (getObj s : Sem Obj).run P W = .ok (.map es clock) W := by simp [getObj, Sem.run, b]
  have n := K.find k _ _ j.keys W
  rw [j.get k] at n
  simp only [Instr.lookup, cH, aY r, bQ, v, dz, K.check, n, xK]
  cases I : l.findIdx? (fun p => beq k p.1) with
  | none => simp [h W]
  | some i =>
   cases q : l[i]? with
   | none => simp [q, h W]
   | some p => simp [q]
theorem rF {l : List (κ × β)} {k : κ} {i : Nat} (h : l.findIdx? (fun p => beq k p.1) = some i) : ∃ p, l[i]? = some p ∧ beq k p.1 = true := by
 rw [ek] at h
 obtain ⟨h1, b, _⟩ := h
 exact ⟨l[i], dP h1, b⟩
theorem ur.put {l : List (κ × β)} {es : Array MapEntry} {clock : Nat} (h : ur kenc vf l es clock) (k : κ) (v : β) :
  match l.findIdx? (fun p => beq k p.1) with
  | some i => ur kenc vf (l.set i (k, v)) (es.modify i fun e => { e with key := kenc k, val := vf v }) clock
  | none => ur kenc vf (l ++ [(k, v)]) (es.push { key := kenc k, val := vf v, born := clock }) (clock + 1) := by
 cases s : l.findIdx? (fun p => beq k p.1) with
 | none =>
  refine ⟨?_, ?_, ?_⟩
  ·simp [h.EZ]
  ·simp only [Array.toList_push, cV]
   exact ⟨h.born, by simp, fun a ha b r => by simp at r; subst r; exact h.lt a ha⟩
  ·intro e he
   simp at he
   rcases he with he | rfl
   ·exact Nat.lt_succ_of_lt (h.lt e (by simpa using he))
   ·exact bI _
 | some i =>
  obtain ⟨p, hp, _⟩ := rF s
  have w : i < l.length := (bH.1 hp).1
  have d : (es.modify i fun e => { e with key := kenc k, val := vf v }).toList.map (·.born) = es.toList.map (·.born) := by
   apply eB
   intro j
   simp only [eC, dT, dS]
   split
   ·cases es[j]? <;> simp
   ·rfl
  refine ⟨?_, ?_, ?_⟩
  ·apply eB
   intro j
   have m := bD (fun q => q[j]?) h.EZ
   simp only [eC, dT] at m
   simp only [eC, dT, dS, eV]
   by_cases g : i = j
   ·subst g
    simp only [aO]
    rw [bB w]
    cases t : es[i]? with
    | none => rw [t, hp] at m; cases m
    | some e => rfl
   ·rw [bo g, bo g]; exact m
  ·have := h.born
   rw [← fC (f := fun e : MapEntry => e.born) (R := (· < ·))] at this ⊢
   rw [d]; exact this
  ·intro e he
   have : e.born ∈ es.toList.map (·.born) := by rw [← d]; exact bM.2 ⟨e, he, rfl⟩
   obtain ⟨e', n, u⟩ := bM.1 this
   rw [← u]; exact h.lt e' n
theorem yh {W : World} {r : Nat} {es : Array MapEntry} {c : Nat} (d : W.heap[r]? = some (.map es c)) (b : Obj) : (setObj r b).run P W = .ok () (ChangeMaps.setBlock W r b) := by
 simp [setObj, Sem.run, d, ChangeMaps.setBlock]
theorem ST.setBlock {A B : List (Nat × Obj)} {b : Nat} {o : Obj} (h : ST dd F w W μ (A ++ (b, o) :: B)) (g : Obj) : ST dd F w (ChangeMaps.setBlock W b g) μ (A ++ (b, g) :: B) := by
 have i := (h.box b o (by simp)).1
 have d := nQ i
 refine h.put ⟨rfl, rfl, rfl, aW _, by simp [ChangeMaps.setBlock]⟩ (fun k hk => ?_) ?_
 ·simp only [ChangeMaps.setBlock]
  rw [Array.getElem?_setIfInBounds_ne (fun e => hk e.symm)]
 ·simp only [ChangeMaps.setBlock]
  rw [Array.getElem?_setIfInBounds_self_of_lt d]
theorem BV {L : Value → World → Prop} (X : List (Nat × Obj)) {Y R : List (Nat × Obj)} {t e : TypeId} {m x y : Operand} {J : Value} {l : List (κ × β)} {k : κ} {v : β} (K : pc P kt kenc beq) (Q : P.underlying t = some (.map kt e)) (r : ST dd F w W μ (X ++ (R ++ Y))) (h : lN kenc vf J l R) (hm : jH E m = J) (U : jH E x = kenc k) (Z : jH E y = vf v) (O : ∀ W' R', ST dd F w W' μ (X ++ (R' ++ Y)) → lN kenc vf J (nT beq l k v) R' → L undef W') : mY P E ⟨d, .mapUpdate t m x y, ty, pos, af, g⟩ W L := by
 obtain ⟨j, es, clock, rfl, rfl, A⟩ := h
 have G : W.heap[j]? = some (.map es clock) := (r.box j (.map es clock) (by simp)).1
 have M : (getObj j : Sem Obj).run P W = .ok (.map es clock) W := by simp [getObj, Sem.run, G]
 have s := K.find k _ _ A.keys W
 rw [A.get k] at s
 have b := A.put (beq := beq) k v
 have n : ∀ W', (Instr.mapUpdate t (.map (some j)) (kenc k) (vf v)).run P W = .ok () W' → (execOp (jH E) ⟨d, .mapUpdate t m x y, ty, pos, af, g⟩).run P W = .ok .skip W' := by
  intro W' T
  show (do Instr.mapUpdate t (jH E m) (jH E x) (jH E y); pure .skip : Sem Next).run P W = _
  rw [hm, U, Z]
  simp [T]
 cases u : l.findIdx? (fun p => beq k p.1) with
 | none =>
  rw [u] at s b
  refine .inr (.inl ⟨ChangeMaps.setBlock W j (.map (es.push { key := kenc k, val := vf v, born := clock }) (clock + 1)), n _ ?_, O _ [(j, _)] (r.setBlock _) ⟨j, _, _, rfl, rfl, ?_⟩⟩)
  ·simp [Instr.mapUpdate, aY Q, M, K.check, s, yh G]
  ·rw [nT, u]; exact b
 | some i =>
  obtain ⟨p, hp, I⟩ := rF u
  rw [u] at s b
  simp only [aA, hp, et] at s
  have z : ((es[i]?).map (·.key)).getD (kenc k) = kenc k := by
   have := bD (fun q => q[i]?) A.keys
   simp only [eC, hp, et, dT] at this
   rw [this]
   simp [K.eq k p.1 I]
  refine .inr (.inl ⟨ChangeMaps.setBlock W j (.map (es.modify i fun e => { e with key := kenc k, val := vf v }) clock), n _ ?_, O _ [(j, _)] (r.setBlock _) ⟨j, _, _, rfl, rfl, ?_⟩⟩)
  ·simp only [Instr.mapUpdate, cH, aY Q, M, K.check, s, bQ, z, Instr.keyThatStays, K.bits, aO, dz]
   exact yh G _
  ·rw [nT, u]; exact b
theorem HZ {h : Value → World → Prop} {t : TypeId} (kenc : κ → Value) (vf : β → Value) (b : ST dd F w W μ L) (i : ∀ W' v R, ST dd F w W' μ (R ++ L) → lN kenc vf v [] R → h v W') : mY P E ⟨d, .makeMap t none, ty, pos, af, g⟩ W h :=
 .inl ⟨.map (some W.heap.size), W.alloc (.map #[] 0), by
   show (do pure (.value (← Instr.makeMap t none)) : Sem Next).run P W = _
   simp [Instr.makeMap, newObj, Sem.run], i _ _ [(W.heap.size, .map #[] 0)] (b.alloc _) ⟨_, _, _, rfl, rfl, ⟨rfl, by simp, by simp⟩⟩⟩
end
end Go.Proofs.YtjjjihkifgdhgaaGreatDoor
namespace Go.Proofs.YtjjjihkifgdhgaaGreatDoor
open Go.RowKit
variable {dd : Bool}
open Classical in
noncomputable def Es {α β : Type} (l : List α) (f : List α → Option β) : Option β :=
 if h : ∃ r, ∀ o, o.Perm l → f o = some r then some h.choose else none
theorem F9 {α β : Type} {l : List α} {f : List α → Option β} {r : β} (h : ∀ o, o.Perm l → f o = some r) : Es l f = some r := by
 have b : ∃ r, ∀ o, o.Perm l → f o = some r := ⟨r, h⟩
 unfold Es
 rw [dif_pos b]
 have h1 := b.choose_spec l (.refl l)
 rw [h l (.refl l)] at h1
 exact h1.symm
end Go.Proofs.YtjjjihkifgdhgaaGreatDoor
namespace Go.Proofs.YtjjjihkifgdhgaaGreatDoor
open Go.RowKit
variable {dd : Bool}
def JJ {α β : Type} (P : Program) (fv : Value) (μ : kk) (d : α → List Value) (g : β → Value) (pm : α → Option β) : Prop :=
 ∃ f b, fv = .func (.func f) #[] b ∧ (∀ args w, (callFunc f args).run P w = .ok (.enter f args) w) ∧ ∀ W x r, kf μ (hp W) → pm x = some r → jT true P f (d x ++ b.toList) W (g r)
def yN {α β : Type} (P : Program) (fv : Value) (μ : kk) (d : α → List Value) (g : β → Value) (pm : α → Option β) : Prop :=
 ∃ f first b, fv = .func (.func f) first b ∧ (∀ args w, (callFunc f args).run P w = .ok (.enter f args) w) ∧ ∀ W x r, kf μ (hp W) → pm x = some r → jT false P f (first.toList ++ (d x ++ b.toList)) W (g r)
theorem yN.form {α β : Type} {P : Program} {fv : Value} {μ : kk} {d : α → List Value} {g : β → Value} {pm : α → Option β} (h : yN P fv μ d g pm) : ∃ f a b, fv = .func f a b := let ⟨f, a, b, h, _⟩ := h; ⟨_, a, b, h⟩
section
variable {P : Program} {W : World} {E : Nat → Value} {d : Option Nat} {ty : TypeId} {pos : String} {af : Array Edge} {g : Option (Nat × Bool)} {F : Nat → Prop} {w : World} {μ μ0 : kk} {L : List (Nat × Obj)}
theorem yN.mono {α β : Type} {fv : Value} {d : α → List Value} {g : β → Value} {pm : α → Option β} (h : yN P fv μ d g pm) (l : kf μ μ0) : yN P fv μ0 d g pm := by
 obtain ⟨f, first, b, h1, i, j⟩ := h
 exact ⟨f, first, b, h1, i, fun W x r h => j W x r (l.trans h)⟩
theorem OV {α β : Type} {K : Value → World → Prop} {fv : Value} {j : α → List Value} {n : β → Value} {pm : α → Option β} {l : Operand} {ax : Array Operand} {ats : Array TypeId} (x : α) {r : β} (i : ST false F w W μ L) (u : yN P fv μ0 j n pm) (y : kf μ0 μ) (v : jH E l = fv) (ha : ax.map (jH E) ++ (#[] : Array Value) = (j x).toArray) (hm : pm x = some r) (h : ∀ W', ST false F w W' μ L → K (n r) W') : mY P E ⟨d, .call ⟨.value l, ax, ats⟩, ty, pos, af, g⟩ W K := by
 obtain ⟨f, first, b, rfl, p, q⟩ := u
 have m : ax.map (jH E) = (j x).toArray := by simpa using ha
 refine .inr (.inr ⟨f, (first.toList ++ (j x ++ b.toList)).toArray, ?_, dr (q W x r (y.trans i.jB) hm) (fun _ _ ⟨s, t⟩ => ⟨_, s, h _ (i.Gp t)⟩)⟩)
 show (do let d ← resolve (jH E) ⟨.value l, ax, ats⟩ ty; invoke d.target d.args : Sem Next).run P W = _
 simp only [resolve, v, Deferred.ofValue, cH, dz, bQ, invoke, m, p]
 congr 2
 simp
end
end Go.Proofs.YtjjjihkifgdhgaaGreatDoor
namespace Go.Proofs.YtjjjihkifgdhgaaGreatDoor
open Go.RowKit
variable {dd : Bool}
def B4 (A : List (Nat × Obj)) : kk := fun b => (A.find? (fun p => p.1 == b)).map (·.2)
theorem lI {A : List (Nat × Obj)} {W : World} (h : ∀ b o, (b, o) ∈ A → W.heap[b]? = some o) : ∀ b o, B4 A b = some o → W.heap[b]? = some o := fun b o d => by
 unfold B4 at d
 cases g : A.find? (fun p => p.1 == b) with
 | none => rw [g] at d; cases d
 | some p =>
  rw [g] at d
  cases d
  have h1 := List.mem_of_find?_eq_some g
  have i := List.find?_some g
  simp at i
  subst i
  exact h _ _ h1
theorem At.of {M : kk} {b : Nat} {cs : Array Value} {T : TypeId} {fr : Nat × Nat} (h : M b = some (.cells cs T fr)) (ys : List Value) (g : cs.toList = ys) : At M (.pointer (some ⟨b, 0, none⟩)) ys :=
 ⟨b, 0, cs, T, fr, rfl, h, fun j y d => by subst g; simpa using d⟩
section
variable {F : Nat → Prop} {w W W' : World} {μ μ' : kk} {L L0 L1 L2 : List (Nat × Obj)}
theorem ST.Lr (h : ST dd F w W μ L) (d : L.Perm (L0 ++ L2)) : ∀ b o, (b, o) ∈ L2 → uc W L0 b = some o := fun b o g => by
 have h1 := (h.perm d).at_ (dY _ g)
 unfold uc
 rw [bo (ER (h.perm d).nd g)]
 exact h1
theorem ST.held (h : ST dd F w W μ L) (d : L.Perm (L0 ++ L2)) : Er L0 W := fun b o g => ((h.perm d).box b o (cK _ g)).1
theorem ST.QX (h : ST dd F w W μ L) (b : L.Perm (L0 ++ L2)) : (L0.map (·.1)).Nodup := by
 have := (h.perm b).nd
 rw [cE] at this
 exact (bY.1 this).1
theorem ST.RL (h : ST dd F w W μ L) (b : L.Perm (L0 ++ L2)) : kf μ (uc W L0) := (h.perm b).kL (fun _ hp => cK _ hp)
end
section
variable {P : Program} {E : Nat → Value} {W : World} {d : Option Nat} {ty : TypeId} {pos : String} {af : Array Edge} {g : Option (Nat × Bool)}
 {F : Nat → Prop} {w : World} {μ : kk} {L : List (Nat × Obj)}
theorem P6 {K : Value → World → Prop} {K' : Value → List (Nat × Obj) → World → Prop} {f : FuncId} {fv : Operand} {ax : Array Operand} {ats : Array TypeId} {j : Array Value} {args : List Value} (L0 L2 : List (Nat × Obj)) (i : ST dd F w W μ L) (l : L.Perm (L0 ++ L2)) (r : jH E fv = .func (.func f) #[] j) (he : ∀ args w, (callFunc f args).run P w = .ok (.enter f args) w) (ha : ax.map (jH E) ++ (#[] : Array Value) = args.toArray) (q : Er L0 W → (L0.map (·.1)).Nodup → kf μ (uc W L0) → (∀ b o, (b, o) ∈ L2 → uc W L0 b = some o) → lH dd P f (args ++ j.toList) W L0 K') (h : ∀ W' v μ' L1, ST dd F w W' μ' (L1 ++ L2) → kf μ μ' → Lo F w μ μ' → (∀ b, W.heap.size ≤ b → ∀ o, uc W' L1 b = some o → μ' b = some o) → K' v L1 W' → K v W') : mY P E ⟨d, .call ⟨.value fv, ax, ats⟩, ty, pos, af, g⟩ W K := by
 have m : ax.map (jH E) = args.toArray := by simpa using ha
 refine EQ (args := (args ++ j.toList).toArray) r he (by rw [m]; simp) (dr (q (i.held l) (i.QX l) (i.RL l) (i.Lr l)) (fun _ W' ⟨v, L1, h1, n, p⟩ => ⟨v, h1, h W' v _ L1 ((i.perm l).back n) ((i.perm l).H0 W' L1) ((i.perm l).J0 W' L1) ?_ p⟩))
 intro b t o s
 unfold By
 rw [bo (by omega)]
 exact s
theorem Sl.lift {α : Type} {enc : α → List Value} {k : Nat} {M μ' : kk} {B : Nat} {v : Value} {l : List α} (h : Sl (Pl enc) k M v l) (q : Fr B v) (p : ∀ b, B ≤ b → ∀ o, M b = some o → μ' b = some o) : Sl (Pl enc) k μ' v l := by
 obtain ⟨A, c, h1, g, i, j⟩ := h
 refine ⟨A, c, h1, g, i, fun r => ?_⟩
 obtain ⟨b, off, cs, T, fr, d, m, n⟩ := j r
 exact ⟨b, off, cs, T, fr, d, p b (q b (by rw [h1, d]; rfl)) _ m, n⟩
theorem FF {t : TypeId} (dd : Nat) {s u : Array TypeId} {b : Bool} (d : P.underlying t = some (.func s u b)) (f : Fn) (a c : Array Value) (W : World) : (Op.equalIn (dd + 1) t (.func f a c) .nilFunc).run P W = .ok false W := by
 simp [Op.equalIn, aY d]
end
def zu {κ β : Type} (beq : κ → κ → Bool) (l : List (κ × β)) (k : κ) (z : β) : β := (kZ beq l k).getD z
section
variable {P : Program} {W : World} {κ β : Type} {kt : TypeId} {kenc : κ → Value} {beq : κ → κ → Bool} {vf : β → Value} {E : Nat → Value} {d : Option Nat} {ty : TypeId} {pos : String} {af : Array Edge} {g : Option (Nat × Bool)} {F : Nat → Prop} {w : World} {μ : kk} {L R : List (Nat × Obj)} {v : Value} {left : List (κ × β)}
theorem zz {t e : TypeId} {m x : Operand} {b : Value} {l : List (κ × β)} {k : κ} {z : β} (K : pc P kt kenc beq) (j : P.underlying t = some (.map kt e)) (p : ∀ w, (zeroValue e).run P w = .ok (vf z) w) (hm : jH E m = b) (n : jH E x = kenc k) (i : vR kenc vf (hp W) b l) :
  lR P E ⟨d, .lookup t m x false, ty, pos, af, g⟩ W (vf (zu beq l k z)) W := by
 have := I3 (d := d) (ty := ty) (pos := pos) (af := af) (g := g) K j p hm n i
 rw [zu]
 cases h : kZ beq l k with
 | none => rw [h] at this; exact this
 | some y => rw [h] at this; exact this
theorem lN.one {b : Value} {l : List (κ × β)} (h : lN kenc vf b l R) : b.oneCell' = true := by obtain ⟨m, es, clock, rfl, _⟩ := h; rfl
theorem lN.form {b : Value} {l : List (κ × β)} (h : lN kenc vf b l R) : ∃ m, b = .map (some m) := by obtain ⟨m, es, clock, rfl, _⟩ := h; exact ⟨m, rfl⟩
theorem lN.nd {b : Value} {l : List (κ × β)} (h : lN kenc vf b l R) : (R.map (·.1)).Nodup := by obtain ⟨m, es, clock, rfl, rfl, _⟩ := h; simp
end
def ou {α : Type} (l : List α) (i : Nat) (z : α) : List α := l.take i ++ List.replicate (l.length - i) z
theorem vq {α : Type} (l : List α) (i : Nat) (z : α) (h : i ≤ l.length) : (ou l i z).length = l.length := by simp [ou]; omega
theorem FA {α : Type} (l : List α) (i : Nat) (z : α) (h : i ≤ l.length) : (ou l i z).take i = l.take i := by
 simp only [ou]
 rw [fc, dM (by simp; omega)]
 simp; omega
end Go.Proofs.YtjjjihkifgdhgaaGreatDoor
namespace Go.Proofs.YtjjjihkifgdhgaaGreatDoor
open Go.RowKit
theorem Im {P : Program} {cs : Array Value} {b : Bool} {n : Nat} {W : World} : ∀ (l : List Field),
  (∀ f ∈ l, f.name ≠ "_" → ∃ v, (part f.type cs f.offset).run P W = .ok v W ∧ (Instr.checkKey b n f.type v).run P W = .ok () W) →
  ((forIn l PUnit.unit fun f (_ : PUnit) => do
   if f.name ≠ "_" then Instr.checkKey b n f.type (← part f.type cs f.offset)
   pure (ForInStep.yield PUnit.unit)) : Sem PUnit).run P W = .ok PUnit.unit W
 | [], _ => by simp
 | f :: l, h => by
  have ih := Im l (fun f i => h f (eW _ i))
  simp only [List.forIn_cons, cH]
  by_cases d : f.name ≠ "_"
  ·obtain ⟨v, h1, g⟩ := h f (by simp) d
   simp only [bB d, cH, h1, bQ, g, dz]
   exact ih
  ·simp only [bo d, cH, dz, bQ]
   exact ih
theorem GH {P : Program} {kt : TypeId} {fs : Array Field} {l : List Field} {cs : Array Value} {b : Bool} {n : Nat} {W : World} (g : P.underlying kt = some (.struct fs)) (d : fs.toList = l) (h : ∀ f ∈ l, f.name ≠ "_" → ∃ v, (part f.type cs f.offset).run P W = .ok v W ∧ (Instr.checkKey b n f.type v).run P W = .ok () W) : (Instr.checkKey b (n + 1) kt (.agg cs)).run P W = .ok () W := by
 obtain ⟨fs⟩ := fs
 subst d
 simp only [Instr.checkKey, cH, aY g, bQ, List.forIn_toArray]
 have := Im (P := P) (cs := cs) (b := b) (n := n) (W := W) fs h
 simp only [cH] at this
 first | rw [this]; rfl | simpa using this
variable {dd : Bool}
def qW (b : Bool) : Option Unit := if b = true then some () else none
theorem I7 {b : Bool} {u : Unit} (h : qW b = some u) : b = true := by
 unfold qW at h; split at h
 ·assumption
 ·cases h
theorem uw {a c : Int} {u : Unit} (h : qW (decide (0 ≤ a) && decide (a ≤ c)) = some u) : 0 ≤ a := by have := I7 h; simp at this; exact this.1
theorem uu {a c : Int} {u : Unit} (h : qW (decide (0 ≤ a) && decide (a ≤ c)) = some u) : a ≤ c := by have := I7 h; simp at this; exact this.2
def Ap (k : Nat) (v : Value) (i : Nat) (u : Value) : Prop := ∃ A n c A' d, v = .slice A n c ∧ u = .slice A' (n - i) d ∧ i ≤ n ∧ (i < n → ∃ b o, A = some ⟨b, o, none⟩ ∧ A' = some ⟨b, o + i * k, none⟩)
section
variable {P : Program} {E : Nat → Value} {W : World} {d : Option Nat} {ty : TypeId} {pos : String} {af : Array Edge} {g : Option (Nat × Bool)}
 {F : Nat → Prop} {w : World} {μ : kk} {L : List (Nat × Obj)} {α : Type} {e' : TypeId} {enc : α → List Value} {k : Nat} {v : Value} {l : List α} {R : List (Nat × Obj)}
theorem zn {t e : TypeId} {x b : Operand} {A : IntKind} {i : Int} (p : P.underlying t = some (.slice e)) (he : ∀ w, (sizeOf e).run P w = .ok k w) (q : jH E x = v) (m : jH E b = .int A i) (h : jX e' enc k v l R) (s : 0 ≤ i) (n : i ≤ l.length) :
  ∃ u, Ap k v i.toNat u ∧ ∀ W, lR P E ⟨d, .slice t x (some b) none none, ty, pos, af, g⟩ W u W := by
 rcases h with ⟨rfl, rfl, rfl⟩ | ⟨j, cap, r, rfl, rfl, h1, G, I, J⟩
 ·have : i = 0 := by simp at n; omega
  subst this
  refine ⟨.slice none 0 0, ⟨none, 0, 0, none, 0, rfl, rfl, aW _, fun h => absurd h (by simp)⟩, fun W => ?_⟩
  show (do pure (.value (← Instr.sliceAt t (jH E x) (some (jH E b)) none none)) : Sem Next).run P W = _
  rw [q, m]
  simp [Instr.sliceAt, Instr.slice, Instr.sliceBounds, Instr.sliceBound, asIntOf, aY p, he W]
 ·refine ⟨.slice (some (if cap = i.toNat then ⟨j, 0, none⟩ else (Addr.add ⟨j, 0, none⟩ (i.toNat * k)))) (l.length - i.toNat) (cap - i.toNat), ⟨_, _, _, _, _, rfl, rfl, by omega, fun z => ⟨j, 0, rfl, ?_⟩⟩, fun W => ?_⟩
  ·rw [bo (by omega)]; simp [dD]
  ·show (do pure (.value (← Instr.sliceAt t (jH E x) (some (jH E b)) none none)) : Sem Next).run P W = _
   rw [q, m]
   have y : 0 ≤ i ∧ i ≤ (l.length : Int) := ⟨s, n⟩
   simp [Instr.sliceAt, Instr.slice, Instr.sliceBounds, Instr.sliceBound, asIntOf, aY p, he W, y]
   split <;> rfl
theorem A6 {i j : Nat} {x0 : α} (h : (l.drop i)[j]? = some x0) : l[i + j]? = some x0 := by rwa [dW] at h
theorem H3 {t e : TypeId} {x : Operand} {u : Value} {i : Nat} (m : P.underlying t = some (.slice e)) (p : jH E x = u) (hu : Ap k v i u) (h : jX e' enc k v l R) : lR P E ⟨d, .call ⟨.builtin .len, #[x], #[t]⟩, ty, pos, af, g⟩ W (.int .i64 ((l.length - i : Nat) : Int)) W := by
 obtain ⟨A, n, c, A', q, h1, j, s, _⟩ := hu
 subst j
 have : n = l.length := by
  rcases h with ⟨rfl, rfl, rfl⟩ | ⟨r, cap, b, rfl, rfl, _⟩
  ·cases h1; rfl
  ·cases h1; rfl
 subst this
 exact ze m p
theorem zy {t e : TypeId} {x q : Operand} {T : IntKind} {i : Int} {x0 : α} {u : Value} {o : Nat} (O : P.underlying t = some (.slice e)) (he : ∀ w, (sizeOf e).run P w = .ok k w) (Q : jH E x = u) (L : jH E q = .int T i) (h : jX e' enc k v l R) (hu : Ap k v o u) (G : 0 ≤ i) (M : (l.drop o)[i.toNat]? = some x0) :
  ∃ p, yH R k p (o + i.toNat) ∧ ∀ W, lR P E ⟨d, .indexAddr t x q, ty, pos, af, g⟩ W p W := by
 have j := A6 M
 have m : o + i.toNat < l.length := (bH.1 j).1
 rcases h with ⟨rfl, rfl, rfl⟩ | ⟨z, cap, r, rfl, rfl, h1, Y, Z, h4⟩
 ·simp at m
 obtain ⟨A, n, c, A', U, s, rfl, h7, I⟩ := hu
 cases s
 obtain ⟨b, oo, y, rfl⟩ := I (by omega)
 cases y
 refine ⟨.pointer (some ⟨z, (o + i.toNat) * k, none⟩), ⟨_, _, rfl, rfl⟩, fun W => ?_⟩
 show (do pure (.value (← Instr.indexAt t (jH E x) (jH E q))) : Sem Next).run P W = _
 rw [Q, L]
 have J : 0 ≤ i ∧ i < ((l.length - o : Nat) : Int) := ⟨G, by omega⟩
 simp [Instr.indexAt, asIntOf, aY O, he W, J, dD, cP]
theorem Ci (ys : List Value) (m : Nat) : (Builtin.zeroCells ys.toArray m).toList = (List.replicate m ys).flatten := by
 unfold Builtin.zeroCells
 simp only [Array.toList_map, Array.toList_range, dH]
 rcases ef ys.length with b | b
 ·have : ys = [] := ei.1 b
  subst this
  simp
 apply eB
 intro q
 by_cases g : q < m * ys.length
 ·have h1 : q / ys.length < m := (Nat.div_lt_iff_lt_mul b).2 g
  have d : q % ys.length < ys.length := Nat.mod_lt _ b
  have := xQ (enc := fun _ : Unit => ys) (fun _ => rfl) (List.replicate m ()) (q / ys.length) () (by simp [h1]) (q % ys.length) ys[q % ys.length] (by simp [d])
  rw [Nat.div_add_mod' q ys.length] at this
  rw [ib] at this
  rw [this]
  simp [g, d]
 ·rw [fA (by simp; omega), fA (by simp; omega)]
theorem KC {K : Value → World → Prop} (z : α) (X : List (Nat × Obj)) {Y : List (Nat × Obj)} {t e : TypeId} {x : Operand} {u zv : Value} {i : Nat} (q : ST dd F w W μ (X ++ (R ++ Y))) (h : jX e' enc k v l R) (hk : ∀ x, (enc x).length = k) (h1 : ∀ x, ∀ u ∈ enc x, u.oneCell' = true) (Q : P.underlying t = some (.slice e)) (hz : ∀ w, (zeroValue e).run P w = .ok zv w) (hu : Ap k v i u) (hc : zv.cells = (enc z).toArray) (hx : jH E x = u) (M : ∀ W' R', ST dd F w W' μ (X ++ (R' ++ Y)) → jX e' enc k v (ou l i z) R' → K (.tuple #[]) W') : mY P E ⟨d, .call ⟨.builtin .clear, #[x], #[t]⟩, ty, pos, af, g⟩ W K := by
 have p : ∀ (W' : World), (Builtin.clear_ #[t] ty #[u]).run P W = .ok (.tuple #[]) W' → (execOp (jH E) ⟨d, .call ⟨.builtin .clear, #[x], #[t]⟩, ty, pos, af, g⟩).run P W = .ok (.value (.tuple #[])) W' := by
  intro W' hV
  show (do let d ← resolve (jH E) ⟨.builtin .clear, #[x], #[t]⟩ ty; invoke d.target d.args : Sem Next).run P W = _
  simp [resolve, invoke, builtin, hx, hV]
 obtain ⟨A, n, c, A', c', e1, rfl, G, h8⟩ := hu
 rcases h with ⟨rfl, rfl, rfl⟩ | ⟨s, cap, j, rfl, rfl, Z, q2, J, q4⟩
 ·cases e1
  refine .inl ⟨_, W, p W ?_, M W [] q (by simpa [ou] using jX.nil e' enc k)⟩
  simp only [Builtin.clear_, Nat.zero_sub]
  cases A' <;> simp [aY Q]
 ·cases e1
  by_cases hi : i < l.length
  ·obtain ⟨b, o, e2, rfl⟩ := h8 hi
   cases e2
   have U : ∀ m, (Builtin.zeroCells zv.cells m).toList = (List.replicate m (enc z)).flatten := by
    intro m
    rw [hc]; exact Ci _ _
   have hb := (q.box s (.cells j e' (0, 0)) (by simp)).1
   have hle : i * k + (l.length - i) * k = l.length * k := by rw [← cP]; congr 1; omega
   have hlen : l.length * k ≤ c * k := cQ _ Z
   have r : ((List.replicate (l.length - i) (enc z)).flatten).length = (l.length - i) * k := by simp [hk]
   have y : ∀ v ∈ (List.replicate (l.length - i) (enc z)).flatten, v.oneCell' = true := by
    intro v I
    obtain ⟨ys, T, I⟩ := iQ.1 I
    rw [(List.mem_replicate.1 T).2] at I
    exact h1 z v I
   have hs := iA (P := P) s (i * k) e' ((List.replicate (l.length - i) (enc z)).flatten) 0 j W hb (by rw [r, J]; omega) y
   rw [gl, r, hle] at hs
   refine .inl ⟨_, W.setRow s (j.toList.take (i * k) ++ (List.replicate (l.length - i) (enc z)).flatten ++ j.toList.drop (l.length * k)).toArray, p _ ?_, M _ [(s, .cells (j.toList.take (i * k) ++ (List.replicate (l.length - i) (enc z)).flatten ++ j.toList.drop (l.length * k)).toArray e' (0, 0))] (q.store _) (.inr ⟨s, c, _, by rw [vq _ _ _ G], rfl, by rw [vq _ _ _ G]; exact Z, q2, ?_, ?_⟩)⟩
   ·have hn : l.length - i = (l.length - i - 1) + 1 := by omega
    simp only [Builtin.clear_]
    rw [hn]
    simp only [aY Q, cH, bQ, gA, gd, hz, dX]
    rw [← hn, U, hs]
    simp
   ·have L : j.toList.length = c * k := by simpa using J
    rw [dH, aF, aF, dp, fI, r, L, dO (by omega)]
    omega
   ·rw [vq _ _ _ G, ou, cE, cO, Ec hk l i G, ← q4, gj, dO (by omega), ib]
    have L : j.toList.length = c * k := by simpa using J
    have e3 : (j.toList.take (i * k) ++ (List.replicate (l.length - i) (enc z)).flatten).length = l.length * k := by rw [aF, dp, r, L, dO (by omega)]; omega
    show List.take (l.length * k) (j.toList.take (i * k) ++ (List.replicate (l.length - i) (enc z)).flatten ++ j.toList.drop (l.length * k)) = _
    rw [fc, dM (by rw [e3]; exact aW _), e3, Nat.sub_self]
    simp
  ·have O : i = l.length := by omega
   subst O
   refine .inl ⟨_, W, p W ?_, M W _ q ?_⟩
   ·simp only [Builtin.clear_, Nat.sub_self]
    cases A' <;> simp [aY Q]
   ·simp only [ou, List.take_length, Nat.sub_self, List.replicate_zero, bA]
    exact .inr ⟨s, c, j, rfl, rfl, Z, q2, J, q4⟩
end
end Go.Proofs.YtjjjihkifgdhgaaGreatDoor
namespace Go.Proofs.YtjjjihkifgdhgaaGreatDoor
open Go.RowKit
variable {dd : Bool}
section
variable {P : Program} {E : Nat → Value} {W : World} {d : Option Nat} {ty : TypeId} {pos : String} {af : Array Edge} {g : Option (Nat × Bool)}
 {F : Nat → Prop} {w : World} {μ : kk} {L : List (Nat × Obj)}
theorem IK {K : Value → World → Prop} {f : FuncId} {fv : Operand} {ax : Array Operand} {ats : Array TypeId} {args : List Value} {v : Value} (i : jH E fv = .func (.func f) #[] #[]) (ha : ax.map (jH E) ++ (#[] : Array Value) = args.toArray) (j : (callFunc f args.toArray).run P W = .ok (.value v) W) (h : K v W) : mY P E ⟨d, .call ⟨.value fv, ax, ats⟩, ty, pos, af, g⟩ W K := by
 have b : ax.map (jH E) = args.toArray := by simpa using ha
 refine .inl ⟨v, W, ?_, h⟩
 show (do let d ← resolve (jH E) ⟨.value fv, ax, ats⟩ ty; invoke d.target d.args : Sem Next).run P W = _
 simp only [resolve, i, Deferred.ofValue, cH, dz, bQ, invoke]
 rw [b]
 simpa using j
def wQ (s : ByteArray) (c : Int) : Int := Lib.indexByte s.data.toList c.toNat.toUInt8
def oQ (a b : ByteArray) : Int := Lib.compareBytes a.data.toList b.data.toList
def tC (l : List Int) : List UInt8 := l.map fun x => x.toNat.toUInt8
def xU (a b : List Int) : Int := Lib.compareBytes (tC a) (tC b)
theorem Hc {f : FuncId} {fn : Func} (g : P.funcs[f]? = some fn) (b : (fn.name == "runtime.NumGoroutine") = false) (d : fn.body.isNone = true) (h : Extern.findNext fn = none) (he : Extern.find fn = some Extern.BytealgIndexByte.indexByte) (s : ByteArray) (c : Int) (w : World) :
  (callFunc f [Value.string s, .int .u8 c].toArray).run P w = .ok (.value (.int .i64 (wQ s c))) w := by
 rw [fP g b d h he]
 rw [Lib.run_indexByteString]
 rfl
theorem N0 {f : FuncId} {fn : Func} (h : P.funcs[f]? = some fn) (d : (fn.name == "runtime.NumGoroutine") = false) (g : fn.body.isNone = true) (i : Extern.findNext fn = none) (he : Extern.find fn = some Extern.BytealgCompare.compare) (a b : ByteArray) (w : World) :
  (callFunc f [Value.string a, .string b].toArray).run P w = .ok (.value (.int .i64 (oQ a b))) w := by
 rw [fP h d g i he]
 rw [Lib.run_compareString]
 rfl
theorem DI {v : Value} {l : List Int} (h : Sl (Pl (kN .u8)) 1 (hp W) v l) : (Extern.Bytes.bytesOf v).run P W = .ok ⟨(tC l).toArray⟩ W := by
 obtain ⟨A, c, rfl, r, s, m⟩ := h
 rcases ef l.length with d | d
 ·have : l = [] := ei.1 d
  subst this
  cases A <;> simp [Extern.Bytes.bytesOf, Extern.Bytes.loadBytes, tC] <;> rfl
 ·obtain ⟨b, off, cs, T, fr, rfl, n, p⟩ := m d
  have := Lib.run_loadBytesX (P := P) W l ⟨b, off, none⟩ .empty (fun j x q => by
   obtain ⟨ys, _, i, g⟩ := p j x q
   cases i
   rw [dD, fi W b (off + j) cs T fr n]
   have := g 0 (.int .u8 x) rfl
   simpa using this)
  simp only [Extern.Bytes.bytesOf]
  rw [this]
  congr 1
  apply fR
  show (#[] : Array UInt8) ++ _ = _
  simp [Lib.bytesOf, tC]
theorem OK {f : FuncId} {fn : Func} (l : P.funcs[f]? = some fn) (d : (fn.name == "runtime.NumGoroutine") = false) (j : fn.body.isNone = true) (m : Extern.findNext fn = none) (he : Extern.find fn = some Extern.BytealgCompare.compare) {g h : Value} {a b : List Int} (h1 : Sl (Pl (kN .u8)) 1 (hp W) g a) (i : Sl (Pl (kN .u8)) 1 (hp W) h b) :
  (callFunc f [g, h].toArray).run P W = .ok (.value (.int .i64 (xU a b))) W := by
 rw [fP l d j m he]
 have : (Extern.BytealgCompare.compare [g, h].toArray).run P W = .ok (.int .i64 (xU a b)) W := by
  change Sem.run P (do pure (goInt (Extern.BytealgCompare.cmp (← Extern.Bytes.bytesOf g) (← Extern.Bytes.bytesOf h)))) W = _
  simp only [cH, DI h1, DI i, dz, Result.andThen]
  rw [Lib.cmp_eq]
  rfl
 rw [this]
 rfl
theorem uf {fn : Fn} {b : Array Operand} {cs : List Value} {v : Value} (h : b.map (jH E) ++ (#[] : Array Value) = cs.toArray) (i : .func fn #[] cs.toArray = v) : lR P E ⟨d, .makeFunc fn #[] b, ty, pos, af, g⟩ W v W := by
 have : b.map (jH E) = cs.toArray := by simpa using h
 exact LU (by rw [this]; simpa using i)
theorem lH.mono {f : FuncId} {args : List Value} {L0 : List (Nat × Obj)} {K K' : Value → List (Nat × Obj) → World → Prop} (h : lH dd P f args w L0 K) (hk : ∀ v L1 W', K v L1 W' → K' v L1 W') : lH dd P f args w L0 K' :=
 dr h (fun _ _ ⟨v, L1, h1, b, d⟩ => ⟨v, L1, h1, b, hk _ _ _ d⟩)
end
section
variable {α : Type}
def tP (cf : α × α → Option Int) (x y : α) : Bool := match cf (x, y) with
 | some c => decide (c < 0)
 | none => false
structure Ea (cf : α × α → Option Int) (l : List α) : Prop where
 is : ∀ x ∈ l, ∀ y ∈ l, ∃ c, cf (x, y) = some c
 irrefl : ∀ x ∈ l, tP cf x x = false
 trans : ∀ x ∈ l, ∀ y ∈ l, ∀ z ∈ l, tP cf x y = true → tP cf y z = true → tP cf x z = true
 total : ∀ x ∈ l, ∀ y ∈ l, tP cf x y = false → tP cf y x = false → x = y
 short : l.length < 4611686018427387904
def sY (cf : α × α → Option Int) (l : List α) : List α := l.mergeSort fun x y => !tP cf y x
open Classical in
noncomputable def zt (cf : α × α → Option Int) (l : List α) : Option (List α) := if Ea cf l then some (sY cf l) else none
theorem G2 {cf : α × α → Option Int} {l r : List α} (h : zt cf l = some r) : Ea cf l ∧ r = sY cf l := by
 unfold zt at h
 split at h
 ·rename_i b; cases h; exact ⟨b, rfl⟩
 ·cases h
theorem O1 {cf : α × α → Option Int} {l : List α} (h : Ea cf l) : zt cf l = some (sY cf l) := by
 unfold zt; rw [bB h]
def uG (l : List ByteArray) : List ByteArray := l.mergeSort fun x y => !pH y x
end
end Go.Proofs.YtjjjihkifgdhgaaGreatDoor
namespace Go.Proofs.YtjjjihkifgdhgaaGreatDoor
open Go.RowKit
variable {dd : Bool}
def wv {κ γ : Type} (Q : Value → γ → List (Nat × Obj) → Prop) : List (κ × Value) → List (κ × γ) → List (Nat × Obj) → Prop
 | [], [], R => R = []
 | p :: b, q :: l, R => p.1 = q.1 ∧ ∃ R1 R2, R = R1 ++ R2 ∧ Q p.2 q.2 R1 ∧ wv Q b l R2
 | _, _, _ => False
def mK {κ γ : Type} (kenc : κ → Value) (Q : Value → γ → List (Nat × Obj) → Prop) (v : Value) (g : List (κ × Value)) (l : List (κ × γ)) (R : List (Nat × Obj)) : Prop :=
 ∃ b d, R = b ++ d ∧ lN kenc (fun x => x) v g b ∧ wv Q g l d
section
variable {κ γ : Type} {Q : Value → γ → List (Nat × Obj) → Prop} {beq : κ → κ → Bool} {kenc : κ → Value}
theorem wv.keys : ∀ {b : List (κ × Value)} {l : List (κ × γ)} {R : List (Nat × Obj)}, wv Q b l R → b.map (·.1) = l.map (·.1)
 | [], [], _, _ => rfl
 | [], _ :: _, _, h => h.elim
 | _ :: _, [], _, h => h.elim
 | p :: b, q :: l, R, h => by
  obtain ⟨h1, R1, R2, _, _, d⟩ := h
  simp [h1, wv.keys d]
theorem wv.find {b : List (κ × Value)} {l : List (κ × γ)} {R : List (Nat × Obj)} (h : wv Q b l R) (k : κ) : b.findIdx? (fun p => beq k p.1) = l.findIdx? (fun p => beq k p.1) := by
 have h1 : (b.map (·.1)).findIdx? (fun x => beq k x) = (l.map (·.1)).findIdx? (fun x => beq k x) := by rw [h.keys]
 rw [gk, gk] at h1
 exact h1
theorem wv.get : ∀ {d : List (κ × Value)} {l : List (κ × γ)} {R : List (Nat × Obj)}, wv Q d l R → ∀ (i : Nat) (k : κ) (x : γ), l[i]? = some (k, x) →
  ∃ v A R1 B, d[i]? = some (k, v) ∧ R = A ++ (R1 ++ B) ∧ Q v x R1 ∧ ∀ k2 v2 x2 R2, Q v2 x2 R2 → wv Q (d.set i (k2, v2)) (l.set i (k2, x2)) (A ++ (R2 ++ B))
 | [], [], _, _, i, k, x, b => by simp at b
 | [], _ :: _, _, h, _, _, _, _ => h.elim
 | _ :: _, [], _, h, _, _, _, _ => h.elim
 | p :: d, q :: l, R, h, 0, k, x, b => by
  obtain ⟨h1, R1, R2, rfl, g, j⟩ := h
  simp at b
  subst b
  refine ⟨p.2, [], R1, R2, by simp only [gd]; exact bD some (Prod.ext h1 rfl), rfl, g, fun k2 v2 x2 R2' m => ⟨rfl, R2', R2, rfl, m, j⟩⟩
 | p :: d, q :: l, R, h, i + 1, k, x, b => by
  obtain ⟨h1, R1, R2, rfl, g, j⟩ := h
  simp at b
  obtain ⟨v, A, R1', B, g1, rfl, g3, g4⟩ := wv.get j i k x b
  exact ⟨v, R1 ++ A, R1', B, by simpa using g1, by simp, g3, fun k2 v2 x2 R2' m => ⟨h1, R1, A ++ (R2' ++ B), by simp, g, g4 k2 v2 x2 R2' m⟩⟩
theorem wv.push : ∀ {d : List (κ × Value)} {l : List (κ × γ)} {R : List (Nat × Obj)}, wv Q d l R → ∀ (k : κ) {v : Value} {x : γ} {R1 : List (Nat × Obj)}, Q v x R1 → wv Q (d ++ [(k, v)]) (l ++ [(k, x)]) (R ++ R1)
 | [], [], _, h, k, v, x, R1, b => by
  have j : _ = [] := h
  subst j
  exact ⟨rfl, R1, [], by simp, b, rfl⟩
 | [], _ :: _, _, h, _, _, _, _, _ => h.elim
 | _ :: _, [], _, h, _, _, _, _, _ => h.elim
 | p :: d, q :: l, R, h, k, v, x, R1, b => by
  obtain ⟨h1, g, i, rfl, m, n⟩ := h
  exact ⟨h1, g, i ++ R1, by simp, m, wv.push n k b⟩
theorem mK.found {u : Value} {g : List (κ × Value)} {l : List (κ × γ)} {R : List (Nat × Obj)} (hk : ∀ {x y : κ}, beq x y = true → x = y) (h : mK kenc Q u g l R) {k : κ} {x : γ} (d : kZ beq l k = some x) :
  ∃ v A R1 B, kZ beq g k = some v ∧ R = A ++ (R1 ++ B) ∧ Q v x R1 ∧ (∀ x2 R2, Q v x2 R2 → mK kenc Q u g (nT beq l k x2) (A ++ (R2 ++ B))) := by
 obtain ⟨s, G, rfl, w, t⟩ := h
 rw [xK] at d
 cases m : l.findIdx? (fun p => beq k p.1) with
 | none => rw [m] at d; cases d
 | some i =>
  rw [m] at d
  obtain ⟨p, hp, z⟩ := rF m
  simp only [aA, hp, et, gm] at d
  subst d
  have r := hk z
  obtain ⟨v, A, R1, B, g1, rfl, g3, g4⟩ := t.get i p.1 p.2 hp
  have n : g.findIdx? (fun p => beq k p.1) = some i := by rw [t.find k, m]
  refine ⟨v, s ++ A, R1, B, by rw [xK, n]; simp [g1], by simp, g3, fun x2 R2 E => ⟨s, A ++ (R2 ++ B), by simp, w, ?_⟩⟩
  have b := g4 k v x2 R2 E
  have e : g.set i (k, v) = g := by
   apply eB
   intro j
   rw [eV]
   split
   ·rename_i q
    subst q
    rw [g1, r]
    simp [(bH.1 g1).1]
   ·rfl
  rw [e] at b
  rw [nT, m]
  exact b
theorem mK.Mf {m : Value} {g : List (κ × Value)} {l : List (κ × γ)} {R : List (Nat × Obj)} (h : mK kenc Q m g l R) {k : κ} (b : kZ beq l k = none) : kZ beq g k = none := by
 obtain ⟨n, q, rfl, r, j⟩ := h
 rw [xK] at b ⊢
 rw [j.find k]
 cases d : l.findIdx? (fun p => beq k p.1) with
 | none => rfl
 | some i =>
  rw [d] at b
  obtain ⟨p, hp, s⟩ := rF d
  simp [hp] at b
def qP (beq : κ → κ → Bool) (b : List (κ × Value)) (k : κ) (z : Value) : Value := (kZ beq b k).getD z
variable {P : Program} {W : World} {kt : TypeId} {E : Nat → Value} {d : Option Nat} {ty : TypeId} {pos : String} {af : Array Edge} {g : Option (Nat × Bool)} {F : Nat → Prop} {w : World} {μ : kk} {L : List (Nat × Obj)}
theorem oN {t e : TypeId} {m x : Operand} {j z : Value} {i : List (κ × Value)} {l : List (κ × γ)} {R : List (Nat × Obj)} {k : κ} (K : pc P kt kenc beq) (s : P.underlying t = some (.map kt e)) (v : ∀ w, (zeroValue e).run P w = .ok z w) (hm : jH E m = j) (u : jH E x = kenc k) (q : mK kenc Q j i l R) (r : ∀ b o, (b, o) ∈ R → W.heap[b]? = some o) : lR P E ⟨d, .lookup t m x false, ty, pos, af, g⟩ W (qP beq i k z) W := by
 obtain ⟨y, A, rfl, n, G⟩ := q
 have p := I3 (d := d) (ty := ty) (pos := pos) (af := af) (g := g) K s v hm u (n.at (μ := hp W) (fun b o h => r b o (cK _ h)))
 simpa [qP] using p
variable {κ2 β : Type} {kenc2 : κ2 → Value} {vf : β → Value} {beq2 : κ2 → κ2 → Bool} {kt2 : TypeId}
theorem mK.Di {m : Value} {g : List (κ × Value)} {l : List (κ × List (κ2 × β))} {R : List (Nat × Obj)} (hk : ∀ {x y : κ}, beq x y = true → x = y) (h : mK kenc (lN kenc2 vf) m g l R) (k : κ) {μ : kk} (i : ∀ b o, (b, o) ∈ R → μ b = some o) :
  vR kenc2 vf μ (qP beq g k (.map none)) ((kZ beq l k).getD []) := by
 cases d : kZ beq l k with
 | none => rw [qP, h.Mf d]; exact .inl ⟨rfl, rfl⟩
 | some x =>
  obtain ⟨v, A, R1, B, g1, rfl, g3, _⟩ := h.found hk d
  rw [qP, g1]
  exact g3.at (fun b o j => i b o (by simp [j]))
theorem mK.isNil {g : Value} {d : List (κ × Value)} {l : List (κ × List (κ2 × β))} {R : List (Nat × Obj)} (hk : ∀ {x y : κ}, beq x y = true → x = y) (h : mK kenc (lN kenc2 vf) g d l R) (k : κ) :
  ∃ r, qP beq d k (.map none) = .map r ∧ r.isNone = (kZ beq l k).isNone := by
 cases b : kZ beq l k with
 | none => rw [qP, h.Mf b]; exact ⟨none, rfl, rfl⟩
 | some x =>
  obtain ⟨v, A, R1, B, g1, rfl, g3, _⟩ := h.found hk b
  obtain ⟨m, es, clock, rfl, _⟩ := g3
  rw [qP, g1]
  exact ⟨_, rfl, rfl⟩
def FL {κ κ2 β : Type} (beq : κ → κ → Bool) (beq2 : κ2 → κ2 → Bool) (l : List (κ × List (κ2 × β))) (k : κ) (k2 : κ2) (x : β) : Option (List (κ × List (κ2 × β))) := (kZ beq l k).map fun b => nT beq l k (nT beq2 b k2 x)
def F5 {κ γ : Type} (beq : κ → κ → Bool) (l : List (κ × γ)) (k : κ) (x : γ) : Option (List (κ × γ)) := if (kZ beq l k).isNone then some (nT beq l k x) else none
theorem NT {r : Value → World → Prop} (X : List (Nat × Obj)) {Y R : List (Nat × Obj)} {t e : TypeId} {m x y : Operand} {z : Value} {q : List (κ × Value)} {l s : List (κ × List (κ2 × β))} {k : κ} {k2 : κ2} {v : β} (hk : ∀ {x y : κ}, beq x y = true → x = y) (K : pc P kt2 kenc2 beq2) (J : P.underlying t = some (.map kt2 e)) (j : ST dd F w W μ (X ++ (R ++ Y))) (h : mK kenc (lN kenc2 vf) z q l R) (hm : jH E m = qP beq q k (.map none)) (L : jH E x = kenc2 k2) (M : jH E y = vf v) (i : FL beq beq2 l k k2 v = some s) (I : ∀ W' R', ST dd F w W' μ (X ++ (R' ++ Y)) → mK kenc (lN kenc2 vf) z q s R' → r undef W') : mY P E ⟨d, .mapUpdate t m x y, ty, pos, af, g⟩ W r := by
 unfold FL at i
 cases n : kZ beq l k with
 | none => rw [n] at i; cases i
 | some O =>
  rw [n] at i
  cases i
  obtain ⟨u, A, R1, B, g1, rfl, g3, g4⟩ := h.found hk n
  have p : jH E m = u := by rw [hm, qP, g1]; rfl
  have b : ST dd F w W μ ((X ++ A) ++ (R1 ++ (B ++ Y))) := by simpa using j
  refine BV (X ++ A) K J b g3 p L M (fun W' R' h1 G => I W' (A ++ (R' ++ B)) ?_ (g4 _ _ G))
  simpa using h1
theorem M0 {I : Value → World → Prop} (X : List (Nat × Obj)) {Y R R2 : List (Nat × Obj)} {t e : TypeId} {m x y : Operand} {G : Value} {A : List (κ × Value)} {l M : List (κ × γ)} {k : κ} {u : Value} {z : γ} (K : pc P kt kenc beq) (ht : P.underlying t = some (.map kt e)) (v : ST dd F w W μ (X ++ (R ++ (R2 ++ Y)))) (h : mK kenc Q G A l R) (hm : jH E m = G) (hx : jH E x = kenc k) (hy : jH E y = u) (hq : Q u z R2) (j : F5 beq l k z = some M) (hK : ∀ W' R', ST dd F w W' μ (X ++ (R' ++ Y)) → mK kenc Q G (nT beq A k u) M R' → I undef W') : mY P E ⟨d, .mapUpdate t m x y, ty, pos, af, g⟩ W I := by
 unfold F5 at j
 cases r : kZ beq l k with
 | some l2 => rw [r] at j; cases j
 | none =>
  rw [r] at j
  simp only [Option.isNone_none, aO, gm] at j
  subst j
  have hn := h.Mf r
  obtain ⟨T, s, rfl, U, Z⟩ := h
  have n : ST dd F w W μ (X ++ (T ++ (s ++ (R2 ++ Y)))) := by simpa using v
  refine BV X K ht n U hm hx hy (fun W' R' g1 g2 => hK W' (R' ++ (s ++ R2)) (by simpa using g1) ⟨R', s ++ R2, rfl, g2, ?_⟩)
  have J : ∀ {O : Type} (q : List (κ × O)) (y : O), kZ beq q k = none → nT beq q k y = q ++ [(k, y)] := fun q y b => by
   rw [xK] at b
   rw [nT]
   cases L : q.findIdx? (fun p => beq k p.1) with
   | none => rfl
   | some i =>
    obtain ⟨p, hp, _⟩ := rF L
    rw [L] at b
    simp [hp] at b
  rw [J A u hn, J l z r]
  exact Z.push k hq
end
end Go.Proofs.YtjjjihkifgdhgaaGreatDoor
namespace Go.Proofs.YtjjjihkifgdhgaaGreatDoor
open Go.RowKit
variable {dd : Bool}
section
variable {κ γ : Type} {Q : Value → γ → List (Nat × Obj) → Prop} {beq : κ → κ → Bool} {kenc : κ → Value}
theorem qE {b : Type} {l : List (κ × b)} {k : κ} {i : Nat} (h : l.findIdx? (fun p => beq k p.1) = some i) (x : b) : nT beq l k x = l.set i (k, x) := by rw [nT, h]
theorem uQ {b : Type} {l : List (κ × b)} {k : κ} (h : l.findIdx? (fun p => beq k p.1) = none) (x : b) : nT beq l k x = l ++ [(k, x)] := by rw [nT, h]
theorem D1 {b : Type} {l : List (κ × b)} {k : κ} (h : l.findIdx? (fun p => beq k p.1) = none) : kZ beq l k = none := by rw [xK, h]; rfl
theorem Dh {b : Type} {l : List (κ × b)} {k : κ} {i : Nat} {p : κ × b} (h : l.findIdx? (fun p => beq k p.1) = some i) (hp : l[i]? = some p) : kZ beq l k = some p.2 := by rw [xK, h]; simp [hp]
def MB (beq : κ → κ → Bool) (kenc : κ → Value) (Q : Value → γ → List (Nat × Obj) → Prop) (g : Value) (d : List (κ × Value)) (l : List (κ × γ)) (k : κ) (R : List (Nat × Obj)) : Prop :=
 ∃ b A B, R = b ++ (A ++ B) ∧ lN kenc (fun x => x) g d b ∧ ∀ v x R1, Q v x R1 → wv Q (nT beq d k v) (nT beq l k x) (A ++ (R1 ++ B))
theorem mK.open (hk : ∀ {x y : κ}, beq x y = true → x = y) {t z : Value} {x0 : γ} (n : Q z x0 []) {q : List (κ × Value)} {l : List (κ × γ)} {R : List (Nat × Obj)} (h : mK kenc Q t q l R) (k : κ) :
  ∃ R' R1, R.Perm (R' ++ R1) ∧ Q (qP beq q k z) ((kZ beq l k).getD x0) R1 ∧ MB beq kenc Q t q l k R' := by
 obtain ⟨g, r, rfl, s, j⟩ := h
 have d := j.find (beq := beq) k
 cases b : l.findIdx? (fun p => beq k p.1) with
 | none =>
  rw [b] at d
  refine ⟨g ++ r, [], by simp, ?_, g, r, [], by simp, s, fun v x R1 m => ?_⟩
  ·rw [qP, D1 b, D1 d]; exact n
  ·rw [uQ b, uQ d]; simpa using j.push k m
 | some i =>
  rw [b] at d
  obtain ⟨p, hp, u⟩ := rF b
  have w := hk u
  obtain ⟨v, A, R1, B, g1, rfl, g3, g4⟩ := j.get i p.1 p.2 hp
  refine ⟨g ++ (A ++ B), R1, ?_, ?_, g, A, B, rfl, s, fun v2 x2 R2 m => ?_⟩
  ·rw [aN, aN]
   refine cD _ (cD _ eu)
  ·rw [qP, Dh b hp, Dh d g1]; exact g3
  ·rw [qE b, qE d]; exact g4 k v2 x2 R2 m
variable {P : Program} {W : World} {kt : TypeId} {E : Nat → Value} {d : Option Nat} {ty : TypeId} {pos : String} {af : Array Edge} {g : Option (Nat × Bool)} {F : Nat → Prop} {w : World} {μ : kk} {L : List (Nat × Obj)}
theorem RO {n : Value → World → Prop} (X : List (Nat × Obj)) {Y R R1 : List (Nat × Obj)} {t e : TypeId} {m x y : Operand} {j : Value} {p : List (κ × Value)} {l : List (κ × γ)} {k : κ} {u : Value} {z : γ} (K : pc P kt kenc beq) (I : P.underlying t = some (.map kt e)) (i : ST dd F w W μ (X ++ (R ++ (R1 ++ Y)))) (h : MB beq kenc Q j p l k R) (hm : jH E m = j) (J : jH E x = kenc k) (L : jH E y = u) (G : Q u z R1) (v : ∀ W' R', ST dd F w W' μ (X ++ (R' ++ Y)) → mK kenc Q j (nT beq p k u) (nT beq l k z) R' → n undef W') : mY P E ⟨d, .mapUpdate t m x y, ty, pos, af, g⟩ W n := by
 obtain ⟨q, A, B, rfl, r, s⟩ := h
 have b : ST dd F w W μ (X ++ (q ++ (A ++ (B ++ (R1 ++ Y))))) := by simpa using i
 refine BV X K I b r hm J L (fun W' R' g1 g2 => v W' (R' ++ (A ++ (R1 ++ B))) ?_ ⟨R', A ++ (R1 ++ B), rfl, g2, s u z R1 G⟩)
 refine g1.perm ?_
 simp only [aN]
 refine cD _ (cD _ (cD _ ?_))
 rw [← aN, ← aN]
 exact gn _ eu
def II (beq : κ → κ → Bool) (kenc : κ → Value) (Q : Value → γ → List (Nat × Obj) → Prop) (d : Value) (l : List (κ × γ)) (k : κ) (g : Nat) (R : List (Nat × Obj)) : Prop :=
 ∃ m es clock b A B i e, d = .map (some m) ∧ R = (m, .map es clock) :: (A ++ B) ∧ ur kenc (fun x => x) b es clock ∧ es[i]? = some e ∧ e.born = g ∧ b.findIdx? (fun p => beq k p.1) = some i ∧
  ∀ v x R1, Q v x R1 → wv Q (nT beq b k v) (nT beq l k x) (A ++ (R1 ++ B))
theorem HV {h : Type} (hk : ∀ x : κ, beq x x = true) (g : List (κ × h)) (k : κ) (a b : h) : nT beq (nT beq g k a) k b = nT beq g k b := by
 cases d : g.findIdx? (fun p => beq k p.1) with
 | none =>
  have h1 : (g ++ [(k, a)]).findIdx? (fun p => beq k p.1) = some g.length := by
   rw [gG, d]
   simp [eS, hk]
  rw [uQ d, uQ d, qE h1]
  simp
 | some i =>
  obtain ⟨p, hp, q⟩ := rF d
  have h1 : (g.set i (k, a)).findIdx? (fun p => beq k p.1) = some i := by
   rw [ek] at d ⊢
   obtain ⟨h1, n, l⟩ := d
   refine ⟨by simpa using h1, by simp [hk], fun j m => ?_⟩
   rw [List.getElem_set_ne (by omega)]
   exact l j m
  rw [qE d, qE d, qE h1]
  simp
end
end Go.Proofs.YtjjjihkifgdhgaaGreatDoor
namespace Go.Proofs.YtjjjihkifgdhgaaGreatDoor
open Go.RowKit
variable {dd : Bool}
section
variable {κ γ : Type} {Q : Value → γ → List (Nat × Obj) → Prop} {beq : κ → κ → Bool} {kenc : κ → Value}
variable {P : Program} {W : World} {kt : TypeId} {E : Nat → Value} {d : Option Nat} {ty : TypeId} {pos : String} {af : Array Edge} {g : Option (Nat × Bool)} {F : Nat → Prop} {w : World} {μ : kk} {L : List (Nat × Obj)}
theorem D5 {es : Array MapEntry} {i : Nat} {f d : MapEntry → MapEntry} (h : ∀ e, es[i]? = some e → f e = d e) : es.modify i f = es.modify i d := by
 apply Array.ext_getElem?
 intro j
 rw [dS, dS]
 split
 ·rename_i b
  subst b
  cases he : es[i]? with
  | none => rfl
  | some e => simp [h e he]
 ·rfl
theorem ur.val {d : List (κ × Value)} {es : Array MapEntry} {clock : Nat} (h : ur kenc (fun x => x) d es clock) {i : Nat} {e : MapEntry} (he : es[i]? = some e) : ∃ p, d[i]? = some p ∧ e.key = kenc p.1 ∧ e.val = p.2 := by
 have b := bD (fun q => q[i]?) h.EZ
 simp only [eC, dT, he, et] at b
 cases hp : d[i]? with
 | none => rw [hp] at b; cases b
 | some p =>
  rw [hp] at b
  simp only [et, gm, Prod.mk.injEq] at b
  exact ⟨p, rfl, b.1, b.2⟩
theorem Mo {Kk : Value → World → Prop} (X : List (Nat × Obj)) {Y R : List (Nat × Obj)} {t e : TypeId} {m x : Operand} {mv z : Value} {x0 : γ} {lv : List (κ × Value)} {l : List (κ × γ)} {k : κ} (hk : ∀ {x y : κ}, beq x y = true ↔ x = y) (K : pc P kt kenc beq) (ht : P.underlying t = some (.map kt e)) (hz : ∀ w, (zeroValue e).run P w = .ok z w) (ag : Q z x0 []) (Z : ST dd F w W μ (X ++ (R ++ Y))) (h : mK kenc Q mv lv l R) (hm : jH E m = mv) (hx : jH E x = kenc k) (hK : ∀ W' v st R' R1, ST dd F w W' μ (X ++ (R' ++ (R1 ++ Y))) → Q v ((kZ beq l k).getD x0) R1 → II beq kenc Q mv l k st R' → Kk (.tuple #[v, .int .i64 (st : Nat)]) W') : mY P E ⟨d, .mapEntry t m x, ty, pos, af, g⟩ W Kk := by
 obtain ⟨Rm, Rv, rfl, ⟨s, es, clock, rfl, rfl, u⟩, U⟩ := h
 have hb : W.heap[s]? = some (.map es clock) := (Z.box s (.map es clock) (by simp)).1
 have h5 : (getObj s : Sem Obj).run P W = .ok (.map es clock) W := by simp [getObj, Sem.run, hb]
 have O := K.find k _ _ u.keys W
 rw [u.get k] at O
 have J := U.find (beq := beq) k
 have I : ∀ W' v, (Instr.mapEntry t (.map (some s)) (kenc k)).run P W = .ok v W' → (execOp (jH E) ⟨d, .mapEntry t m x, ty, pos, af, g⟩).run P W = .ok (.value v) W' := by
  intro W' v hr
  show (do pure (.value (← Instr.mapEntry t (jH E m) (jH E x))) : Sem Next).run P W = _
  rw [hm, hx]
  simp [hr]
 have G : ST dd F w W μ (X ++ (s, .map es clock) :: (Rv ++ Y)) := by simpa using Z
 cases n : lv.findIdx? (fun p => beq k p.1) with
 | none =>
  rw [n] at O J
  have b := u.put (beq := beq) k z
  rw [n] at b
  refine .inl ⟨_, ChangeMaps.setBlock W s (.map (es.push { key := kenc k, val := z, born := clock }) (clock + 1)), I _ (.tuple #[z, .int .i64 (clock : Nat)]) ?_, hK _ z clock ((s, .map (es.push { key := kenc k, val := z, born := clock }) (clock + 1)) :: (Rv ++ [])) [] ?_ ?_ ?_⟩
  ·simp [Instr.mapEntry, aY ht, h5, K.check, O, yh hb, hz _, goInt]
  ·have := G.setBlock (.map (es.push { key := kenc k, val := z, born := clock }) (clock + 1))
   simpa using this
  ·rw [D1 J.symm]; exact ag
  ·refine ⟨s, _, _, lv ++ [(k, z)], Rv, [], es.size, { key := kenc k, val := z, born := clock }, rfl, rfl, b, by simp, rfl, ?_, fun v x R1 hq => ?_⟩
   ·rw [gG, n]
    have ad := u.length
    simp [eS, hk, ad]
   ·rw [← uQ n, HV (fun x => hk.2 rfl), uQ n, uQ J.symm]
    simpa using U.push k hq
 | some i =>
  rw [n] at O J
  obtain ⟨p, hp, ae⟩ := rF n
  obtain ⟨q, ab, a1⟩ := rF J.symm
  have ai := hk.1 a1
  obtain ⟨v, A, R1, B, g1, rfl, g3, g4⟩ := U.get i q.1 q.2 ab
  have aa : p.2 = v := by rw [g1] at hp; cases hp; rfl
  have ad := u.length
  have ah : i < lv.length := (bH.1 hp).1
  obtain ⟨T, r⟩ : ∃ T, es[i]? = some T := ⟨es[i], Array.getElem?_eq_getElem (by omega)⟩
  obtain ⟨p', a8, L, M⟩ := u.val r
  rw [hp] at a8
  cases a8
  simp only [aA, hp, et] at O
  have b := u.put (beq := beq) k v
  rw [n] at b
  have a6 : ((es[i]?).map (·.key)).getD (kenc k) = kenc k := by
   rw [r]
   simp only [et, gC, L]
   exact K.eq k p.1 ae
  have a7 : es.modify i (fun e => { e with key := kenc k }) = es.modify i (fun e => { e with key := kenc k, val := v }) := D5 fun e he => by
   rw [r] at he; cases he
   rw [← aa, ← M]
  refine .inl ⟨_, ChangeMaps.setBlock W s (.map (es.modify i fun e => { e with key := kenc k, val := v }) clock), I _ (.tuple #[v, .int .i64 (T.born : Nat)]) ?_, hK _ v T.born ((s, .map (es.modify i fun e => { e with key := kenc k, val := v }) clock) :: (A ++ B)) R1 ?_ ?_ ?_⟩
  ·simp only [Instr.mapEntry, cH, aY ht, h5, K.check, O, bQ, a6, Instr.keyThatStays, K.bits, aO, dz]
   rw [yh hb, a7]
   simp [r, goInt, aa]
  ·have := G.setBlock (.map (es.modify i fun e => { e with key := kenc k, val := v }) clock)
   refine this.perm ?_
   simp only [aN, bP]
   refine cD _ (List.Perm.cons _ (cD _ ?_))
   rw [← aN, ← aN]
   exact gn _ eu
  ·rw [Dh J.symm ab]; exact g3
  ·refine ⟨s, _, _, lv.set i (k, v), A, B, i, { T with key := kenc k, val := v }, rfl, rfl, b, ?_, rfl, ?_, fun v2 x2 R2 hq => ?_⟩
   ·rw [dS, bB rfl, r]; rfl
   ·rw [ek] at n ⊢
    obtain ⟨h1, u, U⟩ := n
    refine ⟨by simpa using h1, by simp [hk], fun j hj => ?_⟩
    rw [List.getElem_set_ne (by omega)]
    exact U j hj
   ·rw [← qE n, HV (fun x => hk.2 rfl), qE n, qE J.symm]
    exact g4 k v2 x2 R2 hq
theorem Ns {es : Array MapEntry} (h : es.toList.Pairwise (fun a b => a.born < b.born)) {i : Nat} {e : MapEntry} (he : es[i]? = some e) : es.findIdx? (fun a => (a.born : Int) == (e.born : Int)) = some i := by
 rw [Array.findIdx?_eq_some_iff_getElem]
 obtain ⟨g, d⟩ := dF.1 he
 refine ⟨g, by rw [d]; simp, fun j l => ?_⟩
 have := List.pairwise_iff_getElem.1 h j i (by simpa using Nat.lt_trans l g) (by simpa using g) l
 simp only [Array.getElem_toList] at this
 rw [d] at this
 simp
 omega
theorem Kc {Kk : Value → World → Prop} (X : List (Nat × Obj)) {Y R R1 : List (Nat × Obj)} {t e : TypeId} {m s y : Operand} {mv u : Value} {z : γ} {l : List (κ × γ)} {k : κ} {st : Nat} (hk : ∀ {x y : κ}, beq x y = true ↔ x = y) (K : pc P kt kenc beq) (v : ST dd F w W μ (X ++ (R ++ (R1 ++ Y)))) (h : II beq kenc Q mv l k st R) (hm : jH E m = mv) (hs : jH E s = .int .i64 (st : Nat)) (hy : jH E y = u) (hq : Q u z R1) (hK : ∀ W' a1 R', ST dd F w W' μ (X ++ (R' ++ Y)) → mK kenc Q mv a1 (nT beq l k z) R' → Kk undef W') : mY P E ⟨d, .entryStore t m s y, ty, pos, af, g⟩ W Kk := by
 obtain ⟨j, es, clock, lv, A, B, i, en, rfl, rfl, O, q, n, U, h3⟩ := h
 have hb : W.heap[j]? = some (.map es clock) := (v.box j (.map es clock) (by simp)).1
 have h5 : (getObj j : Sem Obj).run P W = .ok (.map es clock) W := by simp [getObj, Sem.run, hb]
 obtain ⟨p, hp, T⟩ := rF U
 obtain ⟨p', M, r, Z⟩ := O.val q
 rw [hp] at M
 cases M
 have b := O.put (beq := beq) k u
 rw [U] at b
 have L : es.modify i (fun e => { e with val := u }) = es.modify i (fun e => { e with key := kenc k, val := u }) := D5 fun e he => by
  rw [q] at he; cases he
  have I : en.key = kenc k := by rw [r]; exact K.eq k p.1 T
  rw [← I]
 have J := Ns O.born q
 rw [n] at J
 have G : ST dd F w W μ (X ++ (j, .map es clock) :: (A ++ (B ++ (R1 ++ Y)))) := by simpa using v
 refine .inr (.inl ⟨ChangeMaps.setBlock W j (.map (es.modify i fun e => { e with key := kenc k, val := u }) clock), ?_, hK _ (nT beq lv k u) ((j, .map (es.modify i fun e => { e with key := kenc k, val := u }) clock) :: (A ++ (R1 ++ B))) ?_ ⟨[(j, .map (es.modify i fun e => { e with key := kenc k, val := u }) clock)], A ++ (R1 ++ B), rfl, ⟨j, _, _, rfl, rfl, ?_⟩, h3 u z R1 hq⟩⟩)
 ·show (do Instr.entryStore t (jH E m) (jH E s) (jH E y); pure .skip : Sem Next).run P W = _
  rw [hm, hs, hy]
  simp only [Instr.entryStore, cH, h5, bQ, asInt, asIntOf, dz, J]
  rw [yh hb, L]
  rfl
 ·have := G.setBlock (.map (es.modify i fun e => { e with key := kenc k, val := u }) clock)
  refine this.perm ?_
  simp only [aN, bP]
  refine cD _ (List.Perm.cons _ (cD _ ?_))
  rw [← aN, ← aN]
  exact gn _ eu
 ·rw [qE U]; exact b
end
end Go.Proofs.YtjjjihkifgdhgaaGreatDoor
namespace Go.Proofs.YtjjjihkifgdhgaaGreatDoor
open Go.RowKit
variable {dd : Bool}
section
variable {κ γ : Type} {Q : Value → γ → List (Nat × Obj) → Prop} {beq : κ → κ → Bool} {kenc : κ → Value}
def lQ (kenc : κ → Value) (Q : Value → γ → List (Nat × Obj) → Prop) (v : Value) (l : List (κ × γ)) (R : List (Nat × Obj)) : Prop := ∃ b, mK kenc Q v b l R
def pZ (kenc : κ → Value) (Q : Value → γ → List (Nat × Obj) → Prop) (μ : kk) (v : Value) (l : List (κ × γ)) : Prop := ∃ d R, mK kenc Q v d l R ∧ ∀ b o, (b, o) ∈ R → μ b = some o
theorem lQ.at {v : Value} {l : List (κ × γ)} {R : List (Nat × Obj)} {μ : kk} (h : lQ kenc Q v l R) (d : ∀ b o, (b, o) ∈ R → μ b = some o) : pZ kenc Q μ v l := let ⟨g, h⟩ := h; ⟨g, R, h, d⟩
theorem pZ.mono {v : Value} {l : List (κ × γ)} {μ μ' : kk} (h : pZ kenc Q μ v l) (i : kf μ μ') : pZ kenc Q μ' v l := let ⟨j, R, h, d⟩ := h; ⟨j, R, h, fun b o g => i _ _ (d b o g)⟩
theorem mK.form {v : Value} {b : List (κ × Value)} {l : List (κ × γ)} {R : List (Nat × Obj)} (h : mK kenc Q v b l R) : ∃ m, v = .map (some m) := let ⟨_, _, _, h, _⟩ := h; h.form
theorem mK.e {v : Value} {b : List (κ × Value)} {l : List (κ × γ)} {R : List (Nat × Obj)} (h : mK kenc Q v b l R) : lQ kenc Q v l R := ⟨b, h⟩
theorem lQ.form {v : Value} {l : List (κ × γ)} {R : List (Nat × Obj)} (h : lQ kenc Q v l R) : ∃ m, v = .map (some m) := let ⟨_, h⟩ := h; h.form
theorem lQ.new {v : Value} {R : List (Nat × Obj)} (h : lN (β := Value) kenc (fun x => x) v [] R) : lQ kenc Q v [] R := ⟨[], R, [], (bA R).symm, h, rfl⟩
theorem mK.rowAt {α : Type} {e : TypeId} {enc : α → List Value} {n : Nat} {j : Value} {g : List (κ × Value)} {l : List (κ × List α)} {R : List (Nat × Obj)} (hk : ∀ {x y : κ}, beq x y = true → x = y) (h : mK kenc (jX e enc n) j g l R) (k : κ) :
  ∃ R1, jX e enc n (qP beq g k (.slice none 0 0)) ((kZ beq l k).getD []) R1 ∧ ∀ b o, (b, o) ∈ R1 → (b, o) ∈ R := by
 cases d : kZ beq l k with
 | none => refine ⟨[], ?_, fun b o h => by cases h⟩; rw [qP, h.Mf d]; exact .inl ⟨rfl, rfl, rfl⟩
 | some x =>
  obtain ⟨v, A, R1, B, g1, rfl, g3, _⟩ := h.found hk d
  refine ⟨R1, ?_, fun b o i => by simp [i]⟩
  rw [qP, g1]; exact g3
theorem jX.DD {α : Type} {e : TypeId} {enc : α → List Value} {k : Nat} {v : Value} {l : List α} {R : List (Nat × Obj)} (h : jX e enc k v l R) (hk : ∀ x, (enc x).length = k) : Sl (Pl enc) k (B4 R) v l := by
 refine h.sl hk (fun b o d => ?_)
 rcases h with ⟨rfl, rfl, rfl⟩ | ⟨g, cap, i, rfl, rfl, _⟩
 ·cases d
 ·simp at d; obtain ⟨rfl, rfl⟩ := d; simp [B4]
end
theorem nn.hp (W : World) : nn (hp W) [] W := ⟨fun _ _ h => h, fun _ _ h => by cases h⟩
section
variable {P : Program} {W : World} {E : Nat → Value} {d : Option Nat} {ty : TypeId} {pos : String} {af : Array Edge} {g : Option (Nat × Bool)} {F : Nat → Prop} {w : World} {μ : kk} {L : List (Nat × Obj)}
theorem G4 {t k e : TypeId} (dd : Nat) (b : P.underlying t = some (.map k e)) (a : Option Nat) (W : World) : (Op.equalIn (dd + 1) t (.map a) (.map none)).run P W = .ok a.isNone W := by
 cases a <;> simp [Op.equalIn, aY b]
theorem ME {tx tv k e : TypeId} {x y : Operand} {r : Option Nat} {b : Bool} (j : P.underlying tx = some (.map k e)) (l : jH E x = .map r) (m : jH E y = .map none) (i : r.isNone = b) :
  lR P E ⟨d, .binOp .eql tx x y tv, ty, pos, af, g⟩ W (.bool b) W := by
 subst i
 show (do let r ← (do eqGuard .eql tx x y (jH E x) (jH E y); binOp .eql tx (jH E x) (jH E y)); pure (.value r) : Sem Next).run P W = _
 rw [l, m]
 have h := G4 9999 j r W
 simp [eqGuard, binOp, Op.equal, show Op.maxDepth = 9999 + 1 from rfl, h]
theorem Kt {κ κ2 β : Type} {kenc : κ → Value} {kenc2 : κ2 → Value} {vf : β → Value} {beq : κ → κ → Bool} {tx tv kt e : TypeId} {x y : Operand} {p : Value} {b : List (κ × Value)} {l : List (κ × List (κ2 × β))} {R : List (Nat × Obj)} {k : κ} (hk : ∀ {x y : κ}, beq x y = true → x = y) (j : P.underlying tx = some (.map kt e)) (h : mK kenc (lN kenc2 vf) p b l R) (m : jH E x = qP beq b k (.map none)) (n : jH E y = .map none) :
  lR P E ⟨d, .binOp .eql tx x y tv, ty, pos, af, g⟩ W (.bool (kZ beq l k).isNone) W := by
 obtain ⟨r, h1, i⟩ := h.isNil hk k
 exact ME j (m.trans h1) n i
theorem CQ {κ γ : Type} {h : Value → World → Prop} {t : TypeId} (kenc : κ → Value) (Q : Value → γ → List (Nat × Obj) → Prop) (b : ST dd F w W μ L) (j : ∀ W' v R, ST dd F w W' μ (R ++ L) → lQ kenc Q v [] R → h v W') : mY P E ⟨d, .makeMap t none, ty, pos, af, g⟩ W h :=
 HZ kenc (fun x : Value => x) b (fun W' v R h1 i => j W' v R h1 (lQ.new i))
end
def pN {α : Type} (e : TypeId) (enc : α → List Value) (k : Nat) (v : Value) (l : List α) (R : List (Nat × Obj)) : Prop :=
 (v = .slice none 0 0 ∧ l = [] ∧ R = []) ∨
 ∃ g off cap b, v = .slice (some ⟨g, off, none⟩) l.length cap ∧ R = [(g, .cells b e (0, 0))] ∧ l.length ≤ cap ∧ cap ≤ maxLen ∧ off + cap * k ≤ b.size ∧ (b.toList.drop off).take (l.length * k) = (l.map enc).flatten
section
variable {α : Type} {e : TypeId} {enc : α → List Value} {k : Nat} {v : Value} {l : List α} {R : List (Nat × Obj)}
theorem pN.nil (e : TypeId) (enc : α → List Value) (k : Nat) : pN e enc k (.slice none 0 0) [] [] := .inl ⟨rfl, rfl, rfl⟩
theorem jX.SY (h : jX e enc k v l R) : pN e enc k v l R := by
 rcases h with h | ⟨g, cap, b, h1, d, i, j, n, m⟩
 ·exact .inl h
 ·exact .inr ⟨g, 0, cap, b, h1, d, i, j, by omega, by simpa using m⟩
theorem pN.len (h : pN e enc k v l R) : l.length ≤ 9223372036854775807 := by
 rcases h with ⟨rfl, rfl, rfl⟩ | ⟨g, off, cap, b, rfl, rfl, h1, d, _⟩
 ·simp
 ·unfold maxLen at d; omega
theorem pN.form (h : pN e enc k v l R) : ∃ A c, v = .slice A l.length c := by
 rcases h with ⟨rfl, rfl, rfl⟩ | ⟨g, off, cap, b, rfl, rfl, _⟩
 ·exact ⟨_, _, rfl⟩
 ·exact ⟨_, _, rfl⟩
theorem pN.DD (h : pN e enc k v l R) (hk : ∀ x, (enc x).length = k) : Sl (Pl enc) k (B4 R) v l := by
 rcases h with ⟨rfl, rfl, rfl⟩ | ⟨g, off, cap, b, rfl, rfl, h1, m, r, n⟩
 ·exact Sl.nil _ _ _
 ·refine ⟨_, cap, rfl, h1, m, fun _ => ⟨g, off, b, e, (0, 0), rfl, by simp [B4], fun i x p => ⟨enc x, hk x, rfl, fun j y q => ?_⟩⟩⟩
  have := xQ hk l i x p j y q
  rw [← n] at this
  have d : i * k + j < l.length * k := by
   have := (bH.1 this).1
   simp at this; omega
  rw [dA d, dW] at this
  simpa [eo] using this
variable {P : Program} {W : World} {E : Nat → Value} {d : Option Nat} {ty : TypeId} {pos : String} {af : Array Edge} {g : Option (Nat × Bool)} {F : Nat → Prop} {w : World} {μ : kk} {L : List (Nat × Obj)}
theorem O2 {x : Operand} {t b : TypeId} (i : P.underlying t = some (.slice b)) (j : jH E x = v) (h : pN e enc k v l R) : lR P E ⟨d, .call ⟨.builtin .len, #[x], #[t]⟩, ty, pos, af, g⟩ W (.int .i64 l.length) W := by
 obtain ⟨A, c, rfl⟩ := h.form
 exact ze i j
theorem L8 {t r : TypeId} {x p : Operand} {Q : IntKind} {i : Int} (A : P.underlying t = some (.slice r)) (he : ∀ w, (sizeOf r).run P w = .ok k w) (G : jH E x = v) (y : jH E p = .int Q i) (hk : ∀ x, (enc x).length = k) (h : pN e enc k v l R) (I : 0 ≤ i) (z : i ≤ l.length) :
  ∃ u, pN e enc k u (l.drop i.toNat) R ∧ ∀ W, lR P E ⟨d, .slice t x (some p) none none, ty, pos, af, g⟩ W u W := by
 rcases h with ⟨rfl, rfl, rfl⟩ | ⟨n, off, cap, j, rfl, rfl, h1, T, U, J⟩
 ·have : i = 0 := by simp at z; omega
  subst this
  refine ⟨.slice none 0 0, by simpa using pN.nil e enc k, fun W => ?_⟩
  show (do pure (.value (← Instr.sliceAt t (jH E x) (some (jH E p)) none none)) : Sem Next).run P W = _
  rw [G, y]
  simp [Instr.sliceAt, Instr.slice, Instr.sliceBounds, Instr.sliceBound, asIntOf, aY A, he W]
 ·refine ⟨.slice (some (if cap = i.toNat then ⟨n, off, none⟩ else (Addr.add ⟨n, off, none⟩ (i.toNat * k)))) (l.length - i.toNat) (cap - i.toNat), .inr ?_, fun W => ?_⟩
  ·have b : (l.drop i.toNat).length = l.length - i.toNat := by simp
   have m : (l.map enc).flatten.drop (i.toNat * k) = ((l.drop i.toNat).map enc).flatten := by
    have L : l = l.take i.toNat ++ l.drop i.toNat := (gB _ _).symm
    have M : ((l.take i.toNat).map enc).flatten.length = i.toNat * k := by rw [pB hk, dp, dO (by omega)]
    conv => lhs; rw [L, cE, cO]
    rw [← M, List.drop_left]
   by_cases s : cap = i.toNat
   ·rw [bB s]
    have q : l.drop i.toNat = [] := List.drop_eq_nil_of_le (by omega)
    refine ⟨n, off, cap - i.toNat, j, by rw [q]; simp; omega, rfl, by rw [q]; simp, by omega, by have : (cap - i.toNat) * k ≤ cap * k := cQ _ (by omega); omega, by rw [q]; simp⟩
   ·rw [bo s]
    refine ⟨n, off + i.toNat * k, cap - i.toNat, j, by rw [b, dD], rfl, by rw [b]; omega, by omega, ?_, ?_⟩
    ·have : i.toNat * k + (cap - i.toNat) * k = cap * k := by rw [← cP]; congr 1; omega
     omega
    ·rw [b, ← m, ← J, gZ, List.drop_drop, Nat.sub_mul]
  ·show (do pure (.value (← Instr.sliceAt t (jH E x) (some (jH E p)) none none)) : Sem Next).run P W = _
   rw [G, y]
   have O : 0 ≤ i ∧ i ≤ (l.length : Int) := ⟨I, z⟩
   simp [Instr.sliceAt, Instr.slice, Instr.sliceBounds, Instr.sliceBound, asIntOf, aY A, he W, O]
   split <;> rfl
theorem Kx {K : Value → World → Prop} {t : TypeId} {a6 : Nat} {z vs : Value} {m r : List α} (X : List (Nat × Obj)) {Y : List (Nat × Obj)} {x y : Operand} {i : TypeInfo} (a7 : ST dd F w W μ (X ++ (R ++ Y))) (hk : ∀ x, (enc x).length = k) (ak : 0 < k) (h1 : ∀ x, ∀ u ∈ enc x, u.oneCell' = true) (ht : P.underlying t = some (.slice e)) (hi : P.info? e = some i) (hz : i.zero = some z) (ab : z.cells.size = k) (a1 : i.size = k) (a8 : i.bytes = a6) (hx : jH E x = v) (hy : jH E y = vs) (hR : pN e enc k v l R) (hs : Sl (Pl enc) k (hp W) vs m) (hb : lX a6 l m = some r) (h : ∀ W' v' R', ST dd F w W' μ (X ++ (R' ++ Y)) → pN e enc k v' r R' → K v' W') : mY P E ⟨d, .call ⟨.builtin .append, #[x, y], #[t, t]⟩, ty, pos, af, g⟩ W K := by
 rcases hR with ⟨rfl, rfl, rfl⟩ | ⟨s, off, cap, p, rfl, rfl, h2, h3, h4, h5⟩
 ·exact Jj X a7 hk ak h1 ht hi hz ab a1 a8 hx hy (jX.nil e enc k) hs hb (fun W' v' R' a b => h W' v' R' a b.SY)
 unfold lX at hb
 split at hb
 case isFalse => cases hb
 rename_i Z
 cases hb
 have U : ∀ (V : Value) (W' : World), (Builtin.append_ #[t, t] ty #[.slice (some ⟨s, off, none⟩) l.length cap, vs]).run P W = .ok V W' → (execOp (jH E) ⟨d, .call ⟨.builtin .append, #[x, y], #[t, t]⟩, ty, pos, af, g⟩).run P W = .ok (.value V) W' := by
  intro V W' hV
  show (do let d ← resolve (jH E) ⟨.builtin .append, #[x, y], #[t, t]⟩ ty; invoke d.target d.args : Sem Next).run P W = _
  simp [resolve, invoke, builtin, hx, hy, hV]
 obtain ⟨A, c, rfl, ao, ap, ah⟩ := hs
 have L : ST dd F w W μ (X ++ (s, .cells p e (0, 0)) :: Y) := by simpa using a7
 have hg : W.heap[s]? = some (.cells p e (0, 0)) := (L.box s _ (by simp)).1
 have J := pB hk l
 have Q : ∀ u ∈ (m.map enc).flatten, u.oneCell' = true := by
  intro u hu
  obtain ⟨ys, an, al⟩ := iQ.1 hu
  obtain ⟨x, _, rfl⟩ := bM.1 an
  exact h1 x u al
 have I : Src P i.size t (.slice A m.length c) m.length ((m.map enc).flatten) W := by
  rw [a1]
  rcases ef m.length with h0 | h0
  ·have hm : m = [] := aV h0
   subst hm
   cases A with
   | none => exact Src.ofNil W ht c
   | some ad => exact Src.ofSlice W ht ad 0 c [] (by simp) (fun j u hu => by simp at hu) (fun u hu => by cases hu)
  ·obtain ⟨b, o, cs, T, fr, rfl, h6, h7⟩ := ah h0
   refine Src.ofSlice W ht _ _ c _ (pB hk m) (fun j u hu => ?_) Q
   obtain ⟨i, x, q, h8, h9, rfl⟩ := F0 hk m j u hu
   obtain ⟨ys, _, ae, ag⟩ := h7 i x h8
   cases ae
   rw [dD, fi W b (o + (i * k + q)) cs T fr h6, ← eo]
   exact ag q u h9
 have n := pB hk m
 have O : ((l ++ m).map enc).flatten = (l.map enc).flatten ++ (m.map enc).flatten := by simp
 generalize (m.map enc).flatten = fm at I Q n O
 subst a1
 have aq : l.length * i.size ≤ cap * i.size := cQ _ h2
 by_cases G : l.length + m.length ≤ cap
 ·have ar : l.length * i.size + m.length * i.size ≤ cap * i.size := by rw [← cP]; exact cQ _ G
  have aa := iA (P := P) s (off + l.length * i.size) e fm 0 p W hg (by rw [n]; omega) Q
  have M : (Builtin.append_ #[t, t] ty #[.slice (some ⟨s, off, none⟩) l.length cap, .slice A m.length c]).run P W = .ok (.slice (some ⟨s, off, none⟩) (l.length + m.length) cap) (W.setRow s (p.toList.take (off + l.length * i.size) ++ fm ++ p.toList.drop (off + l.length * i.size + fm.length)).toArray) := by
   simp [Builtin.append_, aY ht, sizeOf, typeInfo, hi, I.len, G, I.cells, dD]
   simp only [gl] at aa
   rw [aa]
   simp
  refine .inl ⟨_, _, U _ _ M, h _ _ [(s, _)] (by simpa using L.store _) (.inr ⟨s, off, cap, _, by rw [aF], rfl, by simpa using G, h3, ?_, ?_⟩)⟩
  ·simp only [dH, aF, dp, fI, dE, n]
   rw [dO (by omega)]
   omega
  ·have hA : (p.toList.take (off + l.length * i.size)).length = off + l.length * i.size := by simp; omega
   show ((p.toList.take (off + l.length * i.size) ++ (fm ++ p.toList.drop (off + l.length * i.size + fm.length))).drop off).take ((l ++ m).length * i.size) = _
   rw [O, List.drop_append, gZ, hA, show off - (off + l.length * i.size) = 0 by omega, List.drop_zero, show off + l.length * i.size - off = l.length * i.size by omega, h5]
   rw [aF, cP, fc, fc, J, n, dM (by rw [J]; omega), show l.length * i.size + m.length * i.size - l.length * i.size = m.length * i.size by omega, dM (by rw [n]; omega)]
   simp
 ·have hold : (Builtin.firstCells i.size l.length (.slice (some ⟨s, off, none⟩) l.length cap)).run P W.drew = .ok ((l.map enc).flatten).toArray W.drew := by
   refine run_firstCells_some W.drew i.size l.length ⟨s, off, none⟩ l.length cap _ J (fun j u hu => ?_)
   rw [dD]
   show W.cell? ⟨s, off + j, none⟩ = some u
   rw [fi W s (off + j) p e (0, 0) hg]
   rw [← h5] at hu
   have hj : j < l.length * i.size := by have := (bH.1 hu).1; simp at this; omega
   rw [dA hj, dW] at hu
   simpa using hu
  have hlen : (l ++ m).length = l.length + m.length := aF
  have aj := jh W (l.length + m.length) cap e
  have ai := fY W (l.length + m.length) cap e Z.2
  have M := run_append_grow_src (P := P) W t t ty e i z ht hi hz (some ⟨s, off, none⟩) l.length cap ((l.map enc).flatten) hold _ m.length _ I (by omega) (by have := Z.2; unfold maxLen at this; omega) (growslice_fits (by omega) (by rw [a8]; exact Z.1))
  have h6 := L.drew.alloc (.cells (((l.map enc).flatten ++ fm).toArray ++ Builtin.zeroCells z.cells (grownCap W (l.length + m.length) cap e - (l.length + m.length))) e (0, 0))
  have h7 := (ST.drop (A := (W.drew.heap.size, _) :: X) h6).perm (L' := X ++ ([(W.heap.size, _)] ++ Y)) (by simpa using (eP (a := (W.heap.size, _)) (l₁ := X) (l₂ := Y)).symm)
  refine .inl ⟨_, _, U _ _ M, h _ _ _ h7 (jX.SY (.inr ⟨W.heap.size, grownCap W (l.length + m.length) cap e, _, by rw [hlen], rfl, by rw [hlen]; exact aj, ai, ?_, ?_⟩))⟩
  ·rw [iB, ic, ab]
   simp only [dH, aF, J, n]
   rw [← cP, ← cP]
   congr 1
   omega
  ·rw [gO, List.toList_toArray, hlen, O, List.take_append_of_le_length (by simp only [aF, J, n]; rw [cP]; exact aW _), dM (by simp only [aF, J, n]; rw [cP]; exact aW _)]
end
end Go.Proofs.YtjjjihkifgdhgaaGreatDoor
namespace Go.Proofs.YtjjjihkifgdhgaaGreatDoor
open Go.RowKit
variable [M : Md]
section
variable {P : Program} {ops : Array Oper} {Q : Exit → Act → World → Prop} {S : Array Bool → World → Prop}
def xt (ops : Array Oper) (l : Array Bool) : Prop := ∀ j o, ops[j]? = some o → l.getD j true = true → ∀ e ∈ o.after, Region.binds .any e = true → l.getD e.on true = true
def Gy (ops : Array Oper) : Nat → List Nat → Bool
 | _, [] => true
 | j, k :: r => (match ops[j]? with | some o => o.after.any (fun e => Region.binds .any e && e.on == k) | none => false) && Gy ops k r
theorem Gk {l : Array Bool} (g : xt ops l) : ∀ (r : List Nat) (j i : Nat), Gy ops j r = true → (j :: r).getLast? = some i → l.getD j true = true → l.getD i true = true
 | [], j, i, _, h, b => by simp at h; subst h; exact b
 | k :: r, j, i, h, p, b => by
  simp only [Gy, aX] at h
  obtain ⟨h1, m⟩ := h
  cases d : ops[j]? with
  | none => rw [d] at h1; cases h1
  | some o =>
   rw [d] at h1
   simp only [Array.any_eq_true] at h1
   obtain ⟨n, q, h1⟩ := h1
   simp only [aX, fZ] at h1
   have := g j o d b o.after[n] (Array.getElem_mem q) h1.1
   rw [h1.2] at this
   exact Gk g r k i m (by simpa [List.getLast?_cons_cons] using p) this
def FW (ops : Array Oper) (i : Nat) (l : Array Bool) : Prop := xt ops l ∧ l.getD i true = false
theorem FW.DF {l : Array Bool} {i : Nat} (h : FW ops i l) (j : Nat) (r : List Nat) (b : Gy ops j r = true) (g : (j :: r).getLast? = some i) : l.getD j true = false := by
 cases d : l.getD j true with
 | false => rfl
 | true => have := Gk h.1 r j i b g d; rw [h.2] at this; cases this
theorem xt.start (n : Nat) (h : n = ops.size) : xt ops (Array.replicate n false) := by
 subst h
 intro j o g d
 have b : j < ops.size := (dF.1 g).1
 simp [b] at d
theorem xt.set {l : Array Bool} {i : Nat} (h : xt ops l) (s : i ∈ Region.ready .any ops l) : xt ops (l.setIfInBounds i true) := by
 intro j o r q e he p
 have up : ∀ {k : Nat}, l.getD k true = true → (l.setIfInBounds i true).getD k true = true := fun {k} hk => by
  by_cases g : i = k
  ·subst g
   by_cases n : i < l.size
   ·simp [n]
   ·simp [n]
  ·rw [jj true g]; exact hk
 by_cases d : i = j
 ·subst d
  obtain ⟨_, t, m, b⟩ := jm.1 s
  rw [r] at m
  cases m
  refine up ?_
  have := b e he p
  by_cases n : e.on < l.size
  ·simp [n] at this ⊢; exact this
  ·simp [n]
 ·rw [jj true d] at q
  exact up (h j o r q e he p)
def Cj (P : Program) (ops : Array Oper) (S : Array Bool → World → Prop) (i : Nat) (o : Oper) (v : Value) (a : Act) : Prop :=
 (Region.wanted o (yielded ops a.tmps) = true ∧ ∀ l w, FW ops i l → S l w → (execOp a.eval o).run P w = .ok (.value v) w) ∨
 (Region.wanted o (yielded ops a.tmps) = false ∧ v = undef)
theorem Cj.S0 {i : Nat} {o : Oper} {v : Value} {a : Act} {l : Array Bool} (h : Cj P ops S i o v a) (hp : FW ops i l) : YieldsIf P ops (S l) o v a :=
 h.imp (fun ⟨h1, b⟩ => ⟨h1, fun w hw => b l w hp hw⟩) id
def Lx (P : Program) (ops : Array Oper) (Q : Exit → Act → World → Prop) (S : Array Bool → World → Prop) : Nat → Array Bool → Act → World → Prop
 | 0, l, a, w => Region.ready .any ops l = [] ∧ Q .normal a w
 | n + 1, l, a, w => (Region.ready .any ops l = [] → Q .normal a w) ∧
  ∀ i ∈ Region.ready .any ops l, wpOp P ops Q i (fun d b => S (l.setIfInBounds i true) b ∧ Lx P ops Q S n (l.setIfInBounds i true) d b) a w
theorem KG : ∀ (n : Nat) (l : Array Bool) (a : Act) (w : World), Lx P ops Q S n l a w → wpAny P .any ops Q n l a w
 | 0, _, _, _, h => h
 | n + 1, _, _, _, h => ⟨h.1, fun i g => wpOp_mono (fun b j d => KG n _ b j d.2) (h.2 i g)⟩
theorem NS {i j : Nat} {d r : Oper} {v : Value} (x : ops[j]? = some r) (n : d.apart ops r = true) (p : ∀ cs b, d.op ≠ .select cs b) (q : ∀ cs b, r.op ≠ .select cs b) (u : ∀ c a w, Q (.panic c) (a.put d.dst v) w → Q (.panic c) a w) {K : Act → World → Prop} {a : Act} {w : World} (y : Cj P ops S i d v a) (h : wpOp P ops Q j K (a.put d.dst v) w) :
  wpOp P ops Q j (fun g t => Cj P ops S i d v g ∧ K (g.put d.dst v) t) a w := by
 have h1 : YieldsIf P ops (fun w => ∃ l, FW ops i l ∧ S l w) d v a := y.imp (fun ⟨h1, m⟩ => ⟨h1, fun w ⟨l, hp, hw⟩ => m l w hp hw⟩) id
 refine wpOp_mono (fun g t s => ⟨s.1.imp (fun ⟨h1, m⟩ => ⟨h1, fun l w hp hw => m w ⟨l, hp, hw⟩⟩) id, s.2⟩) (wpOp_putIf (S := fun w => ∃ l, FW ops i l ∧ S l w) x n p q u h1 h)
theorem Ii {i : Nat} {x : Oper} {v : Value} (U : ops[i]? = some x) (s : ∀ (j : Nat) (o : Oper) cs b, ops[j]? = some o → o.op ≠ .select cs b) (hQ : ∀ c a w, Q (.panic c) (a.put x.dst v) w → Q (.panic c) a w) (hm : ∀ l w, S (l.setIfInBounds i true) w → S l w) :
  ∀ (n : Nat) (l : Array Bool) (a : Act) (w : World), (∀ j y, ops[j]? = some y → j ≠ i → l.getD j true = false → (∀ e ∈ y.after, Region.binds .any e = true → e.on ≠ i) → x.apart ops y = true) →
   xt ops l → i ∈ Region.ready .any ops l → Cj P ops S i x v a → S (l.setIfInBounds i true) w → Lx P ops Q S n (l.setIfInBounds i true) (a.put x.dst v) w → Lx P ops Q S (n + 1) l a w := by
 intro n
 induction n with
 | zero =>
  intro l a w _ L q M z H
  refine ⟨fun h => (by rw [h] at q; cases q), fun j E => ?_⟩
  by_cases d : j = i
  ·subst d
   exact (M.S0 ⟨L, (jm.1 q).1⟩).wpOp U (hm l w z) ⟨z, H⟩
  ·have := ready_mono E d
   rw [H.1] at this
   cases this
 | succ n ih =>
  intro l a w m L q M z H
  refine ⟨fun h => (by rw [h] at q; cases q), fun j E => ?_⟩
  by_cases d : j = i
  ·subst d
   exact (M.S0 ⟨L, (jm.1 q).1⟩).wpOp U (hm l w z) ⟨z, H⟩
  have h1 := H.2 j (ready_mono E d)
  obtain ⟨r, y, u, A⟩ := jm.1 E
  have I : ∀ e ∈ y.after, Region.binds .any e = true → e.on ≠ i := fun e he hb T => by
   have t := A e he hb
   have h0 := (jm.1 q).1
   rw [T] at t
   rcases Nat.lt_or_ge i l.size with O | O
   ·simp [O] at h0 t; rw [h0] at t; cases t
   ·simp [Array.getElem?_eq_none O] at t
  have t := NS u (m j y u d r I) (fun cs b => s i x cs b U) (fun cs b => s j y cs b u) hQ M h1
  have p : ∀ k ok, ops[k]? = some ok → k ≠ i → (l.setIfInBounds j true).getD k true = false → (∀ e ∈ ok.after, Region.binds .any e = true → e.on ≠ i) → x.apart ops ok = true := fun k ok hk W J Y => by
   refine m k ok hk W ?_ Y
   by_cases G : j = k
   ·subst G; exact r
   ·rw [jj true G] at J; exact J
  have g : (l.setIfInBounds i true).setIfInBounds j true = (l.setIfInBounds j true).setIfInBounds i true := Array.setIfInBounds_comm _ _ (Ne.symm d)
  refine wpOp_mono (fun a' Z R => ?_) t
  have h4 : S ((l.setIfInBounds j true).setIfInBounds i true) Z := by rw [← g]; exact R.2.1
  refine ⟨hm _ Z h4, ih (l.setIfInBounds j true) a' Z p (L.set E) (ready_mono q (Ne.symm d)) R.1 h4 ?_⟩
  rw [← g]
  exact R.2.2
end
theorem SJ {ro : Md} {P : Program} {o : Oper} {a : Act} {w : World} {K : Act → World → Prop} {Q : Exit → Act → World → Prop} (i : ∀ c, o.op ≠ .defer c) (h : o.wp P a w K Q) (l : ¬ LetsOut Q) : o.wpIn ro.F 0 P a w K Q := by
 refine ⟨fun _ _ => trivial, ?_⟩
 rw [Oper.semAt_eq _ _ _ i]
 unfold Oper.wp at h
 cases g : (execOp a.eval o).run P w with
 | ok x b =>
  rw [g] at h
  cases x with
  | value v => exact h
  | skip => exact h
  | defer d => exact h
  | enter f args => exact HE (dr h fun e j he => by cases e with
   | returned v => exact he
   | panicked c => exact he
   | outgrown => exact he)
  | row r args => exact ⟨fun e => (nomatch (show (none : Option Nat).isSome = true from e)), fun c cs _ => by
    obtain ⟨v, b, r, s⟩ := h c cs
    exact ⟨v, b, r, (stepsIn_wide (P := P)).2 s⟩⟩
  | _ => exact h.elim
 | halt z b =>
  rw [g] at h
  cases z with
  | panic v => exact h
  | _ => exact h.elim
def Lv (ops : Array Oper) : Prop := ∀ (i : Nat) (o : Oper), ops[i]? = some o → ∀ c, o.op ≠ .defer c
theorem CV {ro : Md} {P : Program} {ops : Array Oper} {Q : Exit → Act → World → Prop} (g : Lv ops) (d : ¬ LetsOut Q) : ∀ (n : Nat) (l : Array Bool) (a : Act) (w : World), wpAny P .any ops Q n l a w → wpAnyIn ro.F 0 P .any ops Q n l a w
 | 0, _, _, _, h => h
 | n + 1, l, a, w, h => ⟨h.1, fun i m => by
  have b := h.2 i m
  unfold wpOp at b
  unfold wpOpIn
  cases j : ops[i]? with
  | none => rw [j] at b; exact CV g d n _ a w b
  | some o =>
   rw [j] at b
   simp only at b ⊢
   split
   ·rename_i hw
    rw [bB hw] at b
    rcases b with b | b
    ·exact Oper.wpIn_mono (fun a w h => CV g d n _ a w h) (SJ (g i o j) b d)
    ·exact absurd b.2 d
   ·rename_i hw
    rw [bo hw] at b
    exact ⟨fun _ _ => trivial, CV g d n _ _ w b⟩⟩
def LY (l : List Oper) : Bool := l.all fun o => match o.op with
 | .defer _ => false
 | _ => true
theorem P4 {l : List Oper} (h : LY l = true) : Lv l.toArray := fun i o b c d => by
 have hm : o ∈ l := by
  rw [gA] at b
  exact dm b
 have := ev.1 h o hm
 rw [d] at this
 cases this
theorem Rs [M : Md] {n : Nat} {Q : py} : ¬ LetsOut (lift n Q) := fun ⟨_, _, h⟩ => h
def PX (P : Program) (n : Nat) (ops : Array Oper) (Q : py) (S : Array Bool → World → Prop) (fuel : Nat) (listed : Array Bool) (E : Nat → Value) (W : World) : Prop :=
 xt ops listed → ∀ a, Ag n a E → Lx P ops (lift n Q) S fuel listed a W
section
variable {P : Program} {n : Nat} {Q : py} {E : Nat → Value} {W : World} {ops : Array Oper} {S : Array Bool → World → Prop} {fuel : Nat} {listed : Array Bool}
theorem JH {id : Nat} {l : List Oper} (S : Array Bool → World → Prop) (hm : P.follows .mixedOrders = true) (h : PX P n l.toArray Q S l.length (Array.replicate l.length false) E W.drew) (b : LY l = true) : CW P n (.region id l.toArray true) Q E W := fun a ha =>
 wpIn_region_any hm (CV (P4 b) Rs _ _ _ _ (KG _ _ _ _ (h (xt.start _ (by simp)) a ha)))
def BD (ops : Array Oper) (listed : Array Bool) (i : Nat) : Bool := Region.noSelect ops && Region.free .any ops listed i && (Region.ready .any ops listed).contains i
theorem kR {o : Oper} {dd : Nat} {v : Value} (i : Nat) (g : ops[i]? = some o) (hk : BD ops listed i = true) (hw : sC n ops E o) (p : o.dst = some dd) (q : dd < n) (hm : ∀ l w, S (l.setIfInBounds i true) w → S l w) (m : S (listed.setIfInBounds i true) W) (r : ∀ l W, FW ops i l → S l W → lR P E o W v W) (h : PX P n ops Q S fuel (listed.setIfInBounds i true) (nO E dd v) W) : PX P n ops Q S (fuel + 1) listed E W := fun d a ha => by
 simp only [BD, aX] at hk
 have j : i ∈ Region.ready .any ops listed := by simpa using hk.2
 exact Ii g (Region.noSelect_spec hk.1.1) (fun _ _ _ h => Jk h) hm fuel listed a W (Region.free_spec g hk.1.2) d j (.inl ⟨hw.of ha, fun l w hp b => by rw [ha.eval]; exact r l w hp b⟩) m (by rw [p]; exact h (d.set j) _ (ha.put q v))
theorem sd {A : Value → Prop} {o : Oper} {dd : Nat} (i : Nat) (j : ops[i]? = some o) (hk : BD ops listed i = true) (hw : sC n ops E o) (g : o.dst = some dd) (m : dd < n) (hm : ∀ l w, S (l.setIfInBounds i true) w → S l w) (d : S (listed.setIfInBounds i true) W) (q : ∃ p, A p ∧ ∀ W, lR P E o W p W) (h : ∀ p, A p → PX P n ops Q S fuel (listed.setIfInBounds i true) (nO E dd p) W) : PX P n ops Q S (fuel + 1) listed E W := by
 obtain ⟨p, h1, b⟩ := q
 exact kR i j hk hw g m hm d (fun _ W _ _ => b W) (h p h1)
theorem Le {o : Oper} {dd : Nat} (i : Nat) (d : ops[i]? = some o) (hk : BD ops listed i = true) (hw : ∀ a, Ag n a E → Region.wanted o (yielded ops a.tmps) = false) (m : o.dst = some dd) (p : dd < n) (hm : ∀ l w, S (l.setIfInBounds i true) w → S l w) (j : S (listed.setIfInBounds i true) W) (h : PX P n ops Q S fuel (listed.setIfInBounds i true) (nO E dd undef) W) : PX P n ops Q S (fuel + 1) listed E W := fun b a ha => by
 simp only [BD, aX] at hk
 have g : i ∈ Region.ready .any ops listed := by simpa using hk.2
 exact Ii d (Region.noSelect_spec hk.1.1) (fun _ _ _ h => Jk h) hm fuel listed a W (Region.free_spec d hk.1.2) b g (.inr ⟨hw a ha, rfl⟩) j (by rw [m]; exact h (b.set g) _ (ha.put p _))
theorem SG {o : Oper} {dd j t : Nat} {want : Bool} (i : Nat) (p : ops[i]? = some o) (hk : BD ops listed i = true) (m : o.guard = some (j, want)) (q : (ops[j]?).bind (·.dst) = some t) (s : t < n) (b : E t = .bool (!want)) (g : o.dst = some dd) (r : dd < n) (hm : ∀ l w, S (l.setIfInBounds i true) w → S l w) (d : S (listed.setIfInBounds i true) W) (h : PX P n ops Q S fuel (listed.setIfInBounds i true) (nO E dd undef) W) : PX P n ops Q S (fuel + 1) listed E W :=
 Le i p hk (fun a ha => by have u := ha.yield q s b; simp [Region.wanted, m, u]) g r hm d h
theorem QS {o : Oper} {dd j t : Nat} {want : Bool} (i : Nat) (p : ops[i]? = some o) (hk : BD ops listed i = true) (m : o.guard = some (j, want)) (q : (ops[j]?).bind (·.dst) = some t) (s : t < n) (b : E t = undef) (g : o.dst = some dd) (r : dd < n) (hm : ∀ l w, S (l.setIfInBounds i true) w → S l w) (d : S (listed.setIfInBounds i true) W) (h : PX P n ops Q S fuel (listed.setIfInBounds i true) (nO E dd undef) W) : PX P n ops Q S (fuel + 1) listed E W :=
 Le i p hk (fun a ha => by have u := ha.Ge q s b; simp [Region.wanted, m, u]) g r hm d h
theorem Q2 {o : Oper} {dd : Nat} (i : Nat) (t : ops[i]? = some o) (g : Region.ready .any ops listed = [i]) (hw : sC n ops E o) (m : o.dst = some dd) (p : dd < n) (h : mY P E o W fun v W' => S (listed.setIfInBounds i true) W' ∧ PX P n ops Q S fuel (listed.setIfInBounds i true) (nO E dd v) W') : PX P n ops Q S (fuel + 1) listed E W := fun l a ha => by
 have b : i ∈ Region.ready .any ops listed := by rw [g]; simp
 refine ⟨fun s => (by rw [s] at g; cases g), fun j q => ?_⟩
 rw [g] at q
 obtain rfl := bV.1 q
 unfold wpOp
 simp only [t]
 rw [bB (hw.of ha)]
 refine .inl ?_
 unfold Oper.wp
 rw [ha.eval]
 rcases h with ⟨v, W', h1, d⟩ | ⟨W', h1, d⟩ | ⟨f, args, h1, d⟩
 ·rw [h1, jd]; exact ⟨d.1, by rw [m]; exact d.2 (l.set b) _ (ha.put p v)⟩
 ·rw [h1, Oper.upon_skip]; exact ⟨d.1, by rw [m]; exact d.2 (l.set b) _ (ha.put p _)⟩
 ·rw [h1, je]
  refine dr d ?_
  rintro e u ⟨v, rfl, r⟩
  exact ⟨r.1, by simp only [m]; exact r.2 (l.set b) _ (ha.put p v)⟩
theorem Sj {o : Oper} (i : Nat) (s : ops[i]? = some o) (g : Region.ready .any ops listed = [i]) (hw : sC n ops E o) (m : o.dst = none) (h : mY P E o W fun _ W' => S (listed.setIfInBounds i true) W' ∧ PX P n ops Q S fuel (listed.setIfInBounds i true) E W') : PX P n ops Q S (fuel + 1) listed E W := fun l a ha => by
 have b : i ∈ Region.ready .any ops listed := by rw [g]; simp
 refine ⟨fun r => (by rw [r] at g; cases g), fun j p => ?_⟩
 rw [g] at p
 obtain rfl := bV.1 p
 unfold wpOp
 simp only [s]
 rw [bB (hw.of ha)]
 refine .inl ?_
 unfold Oper.wp
 rw [ha.eval]
 rcases h with ⟨v, W', h1, d⟩ | ⟨W', h1, d⟩ | ⟨f, args, h1, d⟩
 ·rw [h1, jd, m]; exact ⟨d.1, d.2 (l.set b) _ (ha.yX _)⟩
 ·rw [h1, Oper.upon_skip, m]; exact ⟨d.1, d.2 (l.set b) _ (ha.yX _)⟩
 ·rw [h1, je]
  refine dr d ?_
  rintro e t ⟨v, rfl, q⟩
  simp only [m]
  exact ⟨q.1, q.2 (l.set b) _ (ha.yX _)⟩
theorem kM (d : Region.ready .any ops listed = []) (h : Q .normal E W) : PX P n ops Q S fuel listed E W := fun _ a ha => by
 cases fuel with
 | zero => exact ⟨d, E, ha, h⟩
 | succ f => exact ⟨fun _ => ⟨E, ha, h⟩, fun i b => by rw [d] at b; cases b⟩
theorem zI {p : Prop} {b : Bool} (d : b = true) (h : b = false) : p := by rw [d] at h; cases h
theorem mX {b : Array Bool} (d : listed = b) (h : PX P n ops Q S fuel b E W) : PX P n ops Q S fuel listed E W := by rw [d]; exact h
theorem Gw {o r : Oper} {d s : Nat} (i j : Nat) (J : ops[i]? = some o) (L : ops[j]? = some r) (p : Region.ready .any ops listed = [i, j]) (hw : sC n ops E o) (x : sC n ops E r) (l : o.dst = some d) (u : r.dst = some s) (m : d < n) (w : s < n) (h : mY P E o W fun v W' => S (listed.setIfInBounds i true) W' ∧ PX P n ops Q S fuel (listed.setIfInBounds i true) (nO E d v) W') (G : mY P E r W fun v W' => S (listed.setIfInBounds j true) W' ∧ PX P n ops Q S fuel (listed.setIfInBounds j true) (nO E s v) W') : PX P n ops Q S (fuel + 1) listed E W := fun t a ha => by
 have key : ∀ (k : Nat) (q : Oper) (e : Nat), ops[k]? = some q → k ∈ Region.ready .any ops listed → sC n ops E q → q.dst = some e → e < n → (mY P E q W fun v W' => S (listed.setIfInBounds k true) W' ∧ PX P n ops Q S fuel (listed.setIfInBounds k true) (nO E e v) W') →
   wpOp P ops (lift n Q) k (fun A y => S (listed.setIfInBounds k true) y ∧ Lx P ops (lift n Q) S fuel (listed.setIfInBounds k true) A y) a W := by
  intro k q e hk b hw l m h
  unfold wpOp
  simp only [hk]
  rw [bB (hw.of ha)]
  refine .inl ?_
  unfold Oper.wp
  rw [ha.eval]
  rcases h with ⟨v, W', h1, g⟩ | ⟨W', h1, g⟩ | ⟨f, args, h1, g⟩
  ·rw [h1, jd]; exact ⟨g.1, by rw [l]; exact g.2 (t.set b) _ (ha.put m v)⟩
  ·rw [h1, Oper.upon_skip]; exact ⟨g.1, by rw [l]; exact g.2 (t.set b) _ (ha.put m _)⟩
  ·rw [h1, je]
   refine dr g ?_
   rintro e y ⟨v, rfl, z⟩
   exact ⟨z.1, by simp only [l]; exact z.2 (t.set b) _ (ha.put m v)⟩
 refine ⟨fun I => (by rw [I] at p; cases p), fun k hk => ?_⟩
 rw [p] at hk
 rcases aQ.1 hk with rfl | hk
 ·exact key _ o d J (by rw [p]; simp) hw l m h
 ·obtain rfl := bV.1 hk
  exact key _ r s L (by rw [p]; simp) x u w G
theorem lJ {l : Array Bool} {i j : Nat} {A : Prop} (b : Nat.beq i j = false) (h : (l.setIfInBounds i true).getD j true = false → A) : l.getD j true = false → A := fun d => h (by
 rw [jj true (fun e => by subst e; simp at b)]; exact d)
end
theorem yH.at {α : Type} {e : TypeId} {enc : α → List Value} {k : Nat} {v : Value} {l : List α} {R : List (Nat × Obj)} (h : jX e enc k v l R) (hk : ∀ x, (enc x).length = k) {p : Value} {i : Nat} (hp : yH R k p i) {x : α} (j : l[i]? = some x) : At (B4 R) p (enc x) := by
 obtain ⟨d, b, cap, rfl, rfl, _, _, _, _, rfl, g⟩ := AG h hk hp j
 exact ⟨d, i * k, b, e, (0, 0), rfl, by simp [B4], g⟩
theorem vR.form {κ β : Type} {kenc : κ → Value} {vf : β → Value} {μ : kk} {v : Value} {l : List (κ × β)} (h : vR kenc vf μ v l) : ∃ r, v = .map r := by
 rcases h with ⟨h, _⟩ | ⟨m, es, clock, h, _⟩
 ·exact ⟨_, h⟩
 ·exact ⟨_, h⟩
noncomputable def Gc {β : Type} (l : List (ByteArray × β)) : Option (List ByteArray) :=
 open Classical in if (l.map (·.1)).Nodup ∧ (∀ p ∈ l, p.1.size ≤ maxLen) ∧ l.length * 16 ≤ 140737488355328 then some (uG (l.map (·.1))) else none
def ND {κ κ2 β α : Type} (b : Nat) (mk : κ → κ2 → α) (l : List (κ × List (κ2 × β))) : Option (List α) :=
 if (l.flatMap (fun p => p.2.map (fun q => mk p.1 q.1))).length * b ≤ 140737488355328 ∧ (l.flatMap (fun p => p.2.map (fun q => mk p.1 q.1))).length ≤ maxLen then some (l.flatMap (fun p => p.2.map (fun q => mk p.1 q.1))) else none
end Go.Proofs.YtjjjihkifgdhgaaGreatDoor
namespace Go.Proofs.YtjjjihkifgdhgaaGreatDoor
open Go.RowKit
variable [M : Md]
section
variable {P : Program} {n : Nat} {Q : py} {E : Nat → Value} {W : World} {ops : Array Oper} {rest : List Oper}
variable {dd : Bool} {α : Type} {enc : α → List Value} {k : Nat} {μ : kk} {v : Value}
variable {d : Option Nat} {ty : TypeId} {pos : String} {af : Array Edge} {g : Option (Nat × Bool)} {F : Nat → Prop} {w : World} {L : List (Nat × Obj)}
def Ie (enc : α → List Value) (k : Nat) : pI (List α) := fun μ ys x => ∃ v, ys = [v] ∧ Sl (Pl enc) k μ v x
theorem Ie.mono (enc : α → List Value) (k : Nat) : Gl (Ie enc k) := fun _ _ _ _ d ⟨v, h1, b⟩ => ⟨v, h1, b.mono (Pl.mono _) d⟩
inductive Bl (enc : α → List Value) (k : Nat) (μ : kk) : List Value → List (List α) → Prop
 | nil : Bl enc k μ [] []
 | cons {v : Value} {x : List α} {vs : List Value} {l : List (List α)} : Sl (Pl enc) k μ v x → Bl enc k μ vs l → Bl enc k μ (v :: vs) (x :: l)
theorem Bl.length {vs : List Value} {l : List (List α)} (h : Bl enc k μ vs l) : vs.length = l.length := by
 induction h with
 | nil => rfl
 | cons _ _ ih => simp [ih]
theorem Bl.get {vs : List Value} {l : List (List α)} (h : Bl enc k μ vs l) : ∀ (i : Nat) (x : List α), l[i]? = some x → ∃ v, vs[i]? = some v ∧ Sl (Pl enc) k μ v x := by
 induction h with
 | nil => intro i x b; simp at b
 | cons h1 _ ih =>
  intro i x b
  cases i with
  | zero => simp at b; subst b; exact ⟨_, rfl, h1⟩
  | succ i => simpa using ih i x (by simpa using b)
theorem Ie.lit {b m : Nat} {vs : List Value} {e : TypeId} {l : List (List α)} (hm : l.length = m) (n : m ≤ maxLen) (p : μ b = some (.cells vs.toArray e (0, 0))) (h : Bl enc k μ vs l) : Sl (Ie enc k) 1 μ (.slice (some ⟨b, 0, none⟩) m m) l := by
 subst hm
 refine ⟨_, _, rfl, aW _, n, fun _ => ⟨b, 0, _, _, _, rfl, p, fun i x q => ?_⟩⟩
 obtain ⟨v, h1, g⟩ := h.get i x q
 refine ⟨[v], rfl, ⟨v, rfl, g⟩, fun j y d => ?_⟩
 cases j with
 | zero => simp at d; subst d; simpa using h1
 | succ j => simp at d
theorem JB {k2 : Nat} {t e : TypeId} {x b : Operand} {z : IntKind} {i : Int} {l : List (List α)} {x0 : List α} (u : P.underlying t = some (.slice e)) (he : ∀ w, (sizeOf e).run P w = .ok 1 w) (y : jH E x = v) (q : jH E b = .int z i) (s : Sl (Ie enc k2) 1 μ v l) (h : 0 ≤ i) (r : l[i.toNat]? = some x0) :
  ∃ p, (∃ v0, At μ p [v0] ∧ Sl (Pl enc) k2 μ v0 x0) ∧ ∀ W, lR P E ⟨d, .indexAddr t x b, ty, pos, af, g⟩ W p W := by
 obtain ⟨p, ys, h1, ⟨v0, rfl, j⟩, m, n⟩ := HG (d := d) (ty := ty) (pos := pos) (af := af) (g := g) u he y q s h r
 exact ⟨p, ⟨v0, m, j⟩, n⟩
theorem JD {x : Operand} {t e : TypeId} (b : P.underlying t = some (.slice e)) (h : jH E x = .slice none 0 0) : lR P E ⟨d, .call ⟨.builtin .cap, #[x], #[t]⟩, ty, pos, af, g⟩ W (.int .i64 0) W := by
 show (do let d ← resolve (jH E) ⟨.builtin .cap, #[x], #[t]⟩ ty; invoke d.target d.args : Sem Next).run P W = _
 simp [resolve, invoke, builtin, Builtin.cap_, aY b, h, goInt]
theorem NF {x y : Operand} {ats : Array TypeId} {k : IntKind} {a b : Int} (h : jH E x = .int k a) (i : jH E y = .int k b) :
  lR P E ⟨d, .call ⟨.builtin .max, #[x, y], ats⟩, ty, pos, af, g⟩ W (.int k (if b > a then b else a)) W := by
 show (do let d ← resolve (jH E) ⟨.builtin .max, #[x, y], ats⟩ ty; invoke d.target d.args : Sem Next).run P W = _
 simp [resolve, invoke, h, i, builtin, Builtin.max_, Builtin.max2]
theorem MK {t e : TypeId} {x ih : Operand} {j : IntKind} (h : P.underlying t = some (.slice e)) (he : ∀ w, (sizeOf e).run P w = .ok k w) (i : jH E x = .slice none 0 0) (b : jH E ih = .int j 0) :
  lR P E ⟨d, .slice t x none (some ih) none, ty, pos, af, g⟩ W (.slice none 0 0) W := by
 show (do pure (.value (← Instr.sliceAt t (jH E x) none (some (jH E ih)) none)) : Sem Next).run P W = _
 rw [i, b]
 simp [Instr.sliceAt, Instr.slice, Instr.sliceBounds, Instr.sliceBound, asIntOf, aY h, he W]
def G7 {α : Type} (b : Nat) (z : α) (n : Int) : Option (List α) := if 0 < n ∧ n * b ≤ 140737488355328 ∧ n ≤ (maxLen : Int) then some (List.replicate n.toNat z) else none
theorem F8 (t p ty e : TypeId) (i : TypeInfo) (z : Value) (x : P.underlying t = some (.slice e)) (m : P.underlying p = some (.int .i64)) (s : P.info? e = some i) (y : i.zero = some z) (n : Nat) (q : 0 < n) (w : 0 < i.size) (r : n ≤ 9223372036854775807) (g : n * i.bytes ≤ 140737488355328) (W : World) :
  (Builtin.append_ #[t, p] ty #[.slice none 0 0, .int .i64 (n : Int)]).run P W =
   .ok (.slice (some ⟨W.heap.size, 0, none⟩) n (grownCap W n 0 e)) (W.drew.alloc (.cells (Builtin.zeroCells z.cells n ++ Builtin.zeroCells z.cells (grownCap W n 0 e - n)) e)) := by
 have hw : IntKind.i64.wrap (n : Int) = (n : Int) := by unfold IntKind.wrap; simp [IntKind.bits, IntKind.signed]; omega
 have h1 : ¬ ((n : Int) < 0) := by omega
 have b : ¬ (281474976710656 < (n : Int) * i.bytes) := by
  have := Int.ofNat_le.2 g
  rw [Int.natCast_mul] at this
  omega
 have j : ¬ (n * i.size = 0) := fun h => by rcases Nat.mul_eq_zero.1 h with h | h <;> omega
 have u : n ≠ 0 := by omega
 have v : i.size ≠ 0 := by omega
 have d : ¬ (9223372036854775807 < (n : Int)) := by omega
 have l : ¬ (281474976710656 < Builtin.nextslicecap n 0 * i.bytes) := by rw [nextslicecap_zero q]; omega
 simp [Builtin.append_, aY x, aY m, sizeOf, typeInfo, zeroValue, s, y, asInt, asIntOf, hw, h1, b, u, d, l, Question.forced, run_firstCells_none, newRow, grownCap]
 exact fun h => absurd h j
theorem I5 {K : Value → World → Prop} {α : Type} {e t G : TypeId} {enc : α → List Value} {k s : Nat} {l : Value} {n : Int} {z : α} {r : List α} (X : List (Nat × Obj)) {Y : List (Nat × Obj)} {x y : Operand} {i : TypeInfo} (p : ST dd F w W μ (X ++ Y)) (hk : ∀ x, (enc x).length = k) (U : 0 < k) (ht : P.underlying t = some (.slice e)) (a6 : P.underlying G = some (.int .i64)) (hi : P.info? e = some i) (hz : i.zero = some l) (a1 : i.size = k) (O : i.bytes = s) (hc : l.cells = (enc z).toArray) (hx : jH E x = .slice none 0 0) (hy : jH E y = .int .i64 n) (j : G7 s z n = some r) (h : ∀ W' v' R', ST dd F w W' μ (X ++ (R' ++ Y)) → jX e enc k v' r R' → K v' W') : mY P E ⟨d, .call ⟨.builtin .append, #[x, y], #[t, G]⟩, ty, pos, af, g⟩ W K := by
 unfold G7 at j
 split at j
 case isFalse => cases j
 rename_i M
 cases j
 obtain ⟨n, rfl⟩ : ∃ m : Nat, n = (m : Int) := ⟨n.toNat, by omega⟩
 have Z : 0 < n := by omega
 subst a1; subst O
 have hM : n ≤ maxLen := by omega
 have L : n ≤ 9223372036854775807 := by simp only [maxLen] at hM; omega
 have J : n * i.bytes ≤ 140737488355328 := Int.ofNat_le.1 (by rw [Int.natCast_mul]; exact M.2.1)
 have hr := F8 (P := P) t G ty e i l ht a6 hi hz n Z U L J W
 have v : (execOp (jH E) ⟨d, .call ⟨.builtin .append, #[x, y], #[t, G]⟩, ty, pos, af, g⟩).run P W = .ok (.value (.slice (some ⟨W.heap.size, 0, none⟩) n (grownCap W n 0 e))) (W.drew.alloc (.cells (Builtin.zeroCells l.cells n ++ Builtin.zeroCells l.cells (grownCap W n 0 e - n)) e)) := by
  show (do let d ← resolve (jH E) ⟨.builtin .append, #[x, y], #[t, G]⟩ ty; invoke d.target d.args : Sem Next).run P W = _
  simp [resolve, invoke, builtin, hx, hy, hr]
 have R := oa _ _ _ _ hr
 refine .inl ⟨_, _, v, ?_⟩
 have T := jh W n 0 e
 have Q : grownCap W n 0 e ≤ maxLen := fY W n 0 e hM
 have a7 : ∀ m, (Builtin.zeroCells l.cells m).toList = (List.replicate m (enc z)).flatten := fun m => by rw [hc, Ci]
 have A : l.cells.size = i.size := by rw [hc, dH, hk]
 have q : jX e enc i.size (.slice (some ⟨W.heap.size, 0, none⟩) n (grownCap W n 0 e)) (List.replicate n z) [(W.heap.size, .cells (Builtin.zeroCells l.cells n ++ Builtin.zeroCells l.cells (grownCap W n 0 e - n)) e (0, 0))] := by
  refine .inr ⟨W.heap.size, grownCap W n 0 e, _, by rw [List.length_replicate], rfl, by simpa using T, Q, ?_, ?_⟩
  ·simp only [iB, ic, A, ← cP]
   congr 1
   omega
  ·have I : (Builtin.zeroCells l.cells n).toList.length = n * i.size := by rw [dE, ic, A]
   rw [List.length_replicate, gO, ← I, gp, a7, ib]
 refine h _ _ _ ?_ q
 have hex : Ex dd W (W.drew.alloc (.cells (Builtin.zeroCells l.cells n ++ Builtin.zeroCells l.cells (grownCap W n 0 e - n)) e)) := ⟨rfl, rfl, rfl, sO.of R, by simp, fun b j => heap_alloc_old W.drew _ j⟩
 have h1 := p.Gp hex
 have u := h1.nd
 refine ⟨h1.os, h1.tape, h1.output, h1.drawn, h1.size, h1.lZ, h1.mem, fun b o j => ?_, ?_⟩
 ·simp only [aU, bV] at j
  rcases j with j | j | j
  ·exact h1.box b o (by simp [j])
  ·cases j
   refine ⟨heap_alloc_new W.drew _, ?_, .inl p.size⟩
   cases hm : μ W.heap.size with
   | none => rfl
   | some x => have := p.CR hm; omega
  ·exact h1.box b o (by simp [j])
 ·simp only [cE, bJ, eF, fz] at u ⊢
  refine (fO eP).2 (dx.2 ⟨fun hm => ?_, u⟩)
  rw [← cE] at hm
  obtain ⟨⟨b, o⟩, j, I⟩ := bM.1 hm
  have := p.DW j
  simp at I
  omega
end
end Go.Proofs.YtjjjihkifgdhgaaGreatDoor
namespace Go.Proofs.YtjjjihkifgdhgaaGreatDoor
open Go.RowKit
variable {dd : Bool}
section
variable {P : Program} {fn : Func} {R : Ending → World → Prop} {E : Nat → Value} {W : World}
theorem qJ {b : Tmp} {t0 : TypeId} {a0 : Addr} {v0 : Value} {d : Tmp} {v1 : Value} (i : fn.results = #[.cell b t0, .tmp d]) (g : E b = .pointer (some a0)) (l : (Instr.loadAt t0 (.pointer (some a0))).run P W = .ok v0 W) (h1 : E d = v1) (h : R (.returned (.tuple #[v0, v1])) W) : wX P fn R .ret E W :=
 ⟨.tuple #[v0, v1], fun tmps j => by
  have m : (loadVar t0 a0).run P W = .ok v0 W := by simpa [Instr.loadAt, Instr.sureAddr] using l
  simp [results, i, j, asAddr, g, m, h1], h⟩
theorem J6 {b : Tmp} {v0 : Value} {d : Tmp} {v1 : Value} {g : Tmp} {v2 : Value} (l : fn.results = #[.tmp b, .tmp d, .tmp g]) (i : E b = v0) (h1 : E d = v1) (j : E g = v2) (h : R (.returned (.tuple #[v0, v1, v2])) W) : wX P fn R .ret E W :=
 ⟨.tuple #[v0, v1, v2], fun tmps m => by
  skip
  simp [results, l, m, asAddr, i, h1, j], h⟩
end
end Go.Proofs.YtjjjihkifgdhgaaGreatDoor
namespace Go.Proofs.YtjjjihkifgdhgaaGreatDoor
open Go.RowKit
variable [M : Md]
section
variable {x y : Nat × Obj} {A B C L R S : List (Nat × Obj)}
theorem Pz : (x :: A).Perm (x :: A) := .refl _
theorem Pb (h : A.Perm (x :: B)) : (y :: A).Perm (x :: y :: B) := (h.cons y).trans (.swap ..)
theorem Pr (h : A.Perm (x :: B)) : (S ++ A).Perm (x :: (S ++ B)) := (h.append_left S).trans eP
theorem Qz : (R ++ A).Perm (R ++ A) := .refl _
theorem Qb (h : A.Perm (R ++ B)) : (y :: A).Perm (R ++ (y :: B)) := (h.cons y).trans List.perm_middle.symm
theorem Qr (h : A.Perm (R ++ B)) : (S ++ A).Perm (R ++ (S ++ B)) := (h.append_left S).trans (fD S R B)
def mA (L L' : List (Nat × Obj)) : Prop := ∃ M, L.Perm (L' ++ M)
theorem Sn : mA L [] := ⟨L, .refl _⟩
theorem St : mA L L := ⟨[], by rw [bA]⟩
theorem Sb (h : L.Perm (x :: A)) (k : mA A B) : mA L (x :: B) := let ⟨M, m⟩ := k; ⟨M, h.trans (m.cons x)⟩
theorem Sr (h : L.Perm (R ++ A)) (k : mA A B) : mA L (R ++ B) := let ⟨M, m⟩ := k; ⟨M, by rw [aN]; exact h.trans (m.append_left R)⟩
theorem Kb (k : mA A B) : mA (x :: A) (x :: B) := Sb Pz k
theorem Kr (k : mA A B) : mA (R ++ A) (R ++ B) := Sr Qz k
theorem Db (k : mA A B) : mA (x :: A) B := let ⟨M, m⟩ := k; ⟨x :: M, (m.cons x).trans List.perm_middle.symm⟩
theorem Dr (k : mA A B) : mA (R ++ A) B := let ⟨M, m⟩ := k; ⟨R ++ M, (m.append_left R).trans (fD R B M)⟩
theorem mA.mem (s : mA L A) : ∀ p, p ∈ A → p ∈ L := fun p hp => let ⟨M, m⟩ := s; m.mem_iff.2 (cK _ hp)
theorem ST.ju {dd : Bool} {F : Nat → Prop} {w W : World} {μ : kk} (h : ST dd F w W μ L) (s : mA L A) : ST dd F w W μ A := let ⟨M, m⟩ := s; (h.perm m).sublist (List.sublist_append_left A M)
theorem nn.ju {μ : kk} {W : World} (h : nn μ L W) (s : mA L A) : nn μ A W := h.sub (kf.refl _) s.mem
theorem nn.ox {μ μ' : kk} {W : World} (h : nn μ L W) (b : kf μ' μ) (s : mA L A) : nn μ' A W := h.sub b s.mem
theorem Cn : L.Perm ([] ++ L) := .refl _
theorem Cb (h : L.Perm (x :: A)) (k : A.Perm (B ++ C)) : L.Perm ((x :: B) ++ C) := h.trans (k.cons x)
theorem Cr (h : L.Perm (R ++ A)) (k : A.Perm (B ++ C)) : L.Perm ((R ++ B) ++ C) := by rw [aN]; exact h.trans (k.append_left R)
theorem C0 (k : L.Perm (B ++ C)) : L.Perm (([] ++ B) ++ C) := k
theorem Tn : ([] ++ A).Perm A := .refl _
theorem Tb (h : (A ++ B).Perm C) : ((x :: A) ++ B).Perm (x :: C) := h.cons x
theorem Tr (h : (A ++ B).Perm C) : ((R ++ A) ++ B).Perm (R ++ C) := by rw [aN]; exact h.append_left R
theorem Nb (h : L.Perm (x :: A)) (k : A.Perm B) : L.Perm (x :: B) := h.trans (k.cons x)
theorem Nr (h : L.Perm (R ++ A)) (k : A.Perm B) : L.Perm (R ++ B) := h.trans (k.append_left R)
theorem Nz : L.Perm L := .refl _
theorem TL {R' R1 : List (Nat × Obj)} (hp : R.Perm (R' ++ R1)) : (R ++ A).Perm (R' ++ (R1 ++ A)) := by rw [← aN]; exact hp.append_right A
theorem Mh : x ∈ x :: A := .head _
theorem Mt (h : x ∈ A) : x ∈ y :: A := .tail _ h
theorem Ma (h : x ∈ A) : x ∈ R ++ A := dY _ h
theorem Ml (h : x ∈ R) : x ∈ R ++ A := cK _ h
end
section
variable {dd : Bool} {F : Nat → Prop} {w W : World} {μ : kk} {L L0 L1 Y R : List (Nat × Obj)}
theorem ST.K7 (h : ST dd kp w W μ L) (s : mA L L1) : tF dd [] L1 w W := let ⟨_, m⟩ := s; (h.perm m).Sm
theorem ST.mc (h : ST dd (keys L0) w W μ L) (s : mA L L1) : tF dd L0 L1 w W := let ⟨_, m⟩ := s; (h.perm m).Sw
theorem ST.I1 : ∀ {R : List (Nat × Obj)} {μ : kk}, ST dd F w W μ (R ++ Y) → ∃ μ', ST dd F w W μ' Y ∧ kf μ μ' ∧ Lo F w μ μ' ∧ ∀ b o, (b, o) ∈ R → μ' b = some o
 | [], μ, h => ⟨μ, h, kf.refl _, Lo.refl, fun _ _ h => by cases h⟩
 | (g, o) :: R, μ, h => by
  have i : ST dd F w W μ ([] ++ (g, o) :: (R ++ Y)) := h
  obtain ⟨μ', j, a2, a3, a4⟩ := ST.I1 (R := R) (ST.HF (A := []) i)
  refine ⟨μ', j, (ST.Hn (A := []) i).trans a2, (ST.NJ (A := []) i).trans a3, fun b l d => ?_⟩
  rcases aQ.1 d with d | d
  ·cases d; exact a2 _ _ (bB rfl)
  ·exact a4 b l d
theorem ST.QW {α : Type} {e' : TypeId} {enc : α → List Value} {k : Nat} {v : Value} {l : List α} (b : ST dd F w W μ (R ++ Y)) (h : jX e' enc k v l R) (hk : ∀ x, (enc x).length = k) : ∃ μ', ST dd F w W μ' Y ∧ kf μ μ' ∧ Lo F w μ μ' ∧ Sl (Pl enc) k μ' v l := by
 obtain ⟨μ', d, a2, a3, a4⟩ := ST.I1 b
 exact ⟨μ', d, a2, a3, h.sl hk a4⟩
section
variable {P : Program} {n : Nat} {Q : py} {E : Nat → Value} {V : World} {id : Nat} {l : List Oper} {A B C : List (Nat × Obj)}
theorem ky (d : nn μ A V.drew) (hm : P.follows .mixedOrders = true) (h : PX P n l.toArray Q (fun _ W => nn μ A W) l.length (Array.replicate l.length false) E V.drew) (b : LY l = true := by kernel_rfl) : CW P n (.region id l.toArray true) Q E V := JH _ hm h b
theorem uR (i : Nat) (d : nn μ A V.drew) (h1 : nn μ B V.drew) (hm : P.follows .mixedOrders = true) (h : PX P n l.toArray Q (fun l W => nn μ A W ∧ (l.getD i true = false → nn μ B W)) l.length (Array.replicate l.length false) E V.drew) (b : LY l = true := by kernel_rfl) : CW P n (.region id l.toArray true) Q E V := JH _ hm h b
end
structure nz (μ : kk) (L0 : List (Nat × Obj)) (w : World) : Prop where
 H : Er L0 w
 N : (L0.map (·.1)).Nodup
 S : kf μ (uc w L0)
theorem ST.G0 (h : nz μ L0 w) : ST dd (keys L0) w w μ L0 := (ST.Rw h.H h.N).lz h.S
end
section
variable {dd : Bool} {P : Program} {E : Nat → Value} {W : World} {d : Option Nat} {ty : TypeId} {pos : String} {af : Array Edge} {g : Option (Nat × Bool)} {F : Nat → Prop} {w : World} {μ : kk} {L : List (Nat × Obj)}
theorem jL {K : Value → World → Prop} {B : List (Nat × Obj)} {t : TypeId} {x y : Operand} (v : Value) {b off : Nat} {cs : Array Value} {T : TypeId} (i : Array Value) (j : ST dd F w W μ ((b, .cells cs T (0, 0)) :: B)) (p : jH E x = .pointer (some ⟨b, off, none⟩)) (q : jH E y = v) (l : ∀ w, (sizeOf t).run P w = .ok v.cells.size w) (h1 : ∀ u ∈ v.cells.toList, u.oneCell' = true) (n : off + v.cells.size ≤ cs.size) (m : (cs.toList.take off ++ v.cells.toList ++ cs.toList.drop (off + v.cells.size)).toArray = i) (h : ∀ W', ST dd F w W' μ ((b, .cells i T (0, 0)) :: B) → K undef W') : mY P E ⟨d, .store t x y, ty, pos, af, g⟩ W K := P5 [] v i j p q l h1 n m h
end
section
variable {dd : Bool}
variable {P : Program} {n : Nat} {Q : py} {E : Nat → Value} {W : World} {ops : Array Oper} {rest : List Oper}
 {d : Option Nat} {ty : TypeId} {pos : String} {af : Array Edge} {g : Option (Nat × Bool)}
 {F : Nat → Prop} {w : World} {μ : kk} {L : List (Nat × Obj)}
theorem mz {K : Value → World → Prop} {α : Type} {e t : TypeId} {enc : α → List Value} {k b : Nat} {z v vs : Value} {l m r : List α} {R Y : List (Nat × Obj)} {x y : Operand} {i : TypeInfo} (j : ST dd F w W μ (R ++ Y)) (hk : ∀ x, (enc x).length = k) (p : 0 < k) (h1 : ∀ x, ∀ u ∈ enc x, u.oneCell' = true) (M : P.underlying t = some (.slice e)) (J : P.info? e = some i) (T : i.zero = some z) (s : z.cells.size = k) (q : i.size = k) (n : i.bytes = b) (O : jH E x = v) (Q : jH E y = vs) (G : jX e enc k v l R) (L : Sl (Pl enc) k (hp W) vs m) (I : lX b l m = some r) (h : ∀ W' A R', ST dd F w W' μ (R' ++ Y) → jX e enc k A r R' → K A W') : mY P E ⟨d, .call ⟨.builtin .append, #[x, y], #[t, t]⟩, ty, pos, af, g⟩ W K :=
 Jj [] j hk p h1 M J T s q n O Q G L I h
end
section
variable {dd : Bool}
variable {P : Program} {E : Nat → Value} {W : World} {d : Option Nat} {ty : TypeId} {pos : String} {af : Array Edge} {g : Option (Nat × Bool)}
 {F : Nat → Prop} {w : World} {μ : kk} {L : List (Nat × Obj)}
theorem LD {K : Value → World → Prop} {α : Type} {e : TypeId} {enc : α → List Value} {k : Nat} {l : List α} {f : FuncId} {fv : Operand} {ax : Array Operand} {ats : Array TypeId} {b : Array Value} {args : List Value} (Y : List (Nat × Obj)) (i : ST dd F w W μ Y) (m : jH E fv = .func (.func f) #[] b) (he : ∀ args w, (callFunc f args).run P w = .ok (.enter f args) w) (ha : ax.map (jH E) ++ b = args.toArray) (j : kY dd P f args W e enc k l) (h : ∀ W' v μ' R, ST dd F w W' μ' (R ++ Y) → kf μ μ' → Lo F w μ μ' → jX e enc k v l R → K v W') : mY P E ⟨d, .call ⟨.value fv, ax, ats⟩, ty, pos, af, g⟩ W K :=
 LZ [] Y i m he ha j h
end
section
variable {dd : Bool}
variable {P : Program} {E : Nat → Value} {W : World} {d : Option Nat} {ty : TypeId} {pos : String} {af : Array Edge} {g : Option (Nat × Bool)}
 {F : Nat → Prop} {w : World} {μ : kk} {L : List (Nat × Obj)} {α : Type} {e' : TypeId} {enc : α → List Value} {k : Nat} {v : Value} {l : List α} {R : List (Nat × Obj)}
theorem CK {K : Value → World → Prop} {Y : List (Nat × Obj)} {t : TypeId} {x y : Operand} {p u : Value} {i : Nat} {x0 x1 : α} (b : ST dd F w W μ (R ++ Y)) (h : jX e' enc k v l R) (hk : ∀ x, (enc x).length = k) (h1 : ∀ x, ∀ u ∈ enc x, u.oneCell' = true) (q : jH E x = p) (r : jH E y = u) (hu : u.cells = (enc x1).toArray) (hp : yH R k p i) (n : l[i]? = some x0) (m : ∀ w, (sizeOf t).run P w = .ok k w) (j : ∀ W' R', ST dd F w W' μ (R' ++ Y) → jX e' enc k v (l.set i x1) R' → K undef W') : mY P E ⟨d, .store t x y, ty, pos, af, g⟩ W K :=
 Mb [] b h hk h1 q r hu hp n m j
end
section
variable {dd : Bool}
variable {P : Program} {E : Nat → Value} {W : World} {d : Option Nat} {ty : TypeId} {pos : String} {af : Array Edge} {g : Option (Nat × Bool)}
 {F : Nat → Prop} {w : World} {μ : kk} {L : List (Nat × Obj)} {α : Type} {e' : TypeId} {enc : α → List Value} {k : Nat} {v : Value} {l : List α} {R : List (Nat × Obj)}
theorem B9 {K : Value → World → Prop} (z : α) {Y : List (Nat × Obj)} {t e : TypeId} {x : Operand} {u j : Value} {i : Nat} (b : ST dd F w W μ (R ++ Y)) (h : jX e' enc k v l R) (hk : ∀ x, (enc x).length = k) (h1 : ∀ x, ∀ u ∈ enc x, u.oneCell' = true) (p : P.underlying t = some (.slice e)) (r : ∀ w, (zeroValue e).run P w = .ok j w) (hu : Ap k v i u) (n : j.cells = (enc z).toArray) (q : jH E x = u) (m : ∀ W' R', ST dd F w W' μ (R' ++ Y) → jX e' enc k v (ou l i z) R' → K (.tuple #[]) W') : mY P E ⟨d, .call ⟨.builtin .clear, #[x], #[t]⟩, ty, pos, af, g⟩ W K :=
 KC z [] b h hk h1 p r hu n q m
end
section
variable {dd : Bool}
variable {κ γ : Type} {Q : Value → γ → List (Nat × Obj) → Prop} {beq : κ → κ → Bool} {kenc : κ → Value}
variable {P : Program} {W : World} {kt : TypeId} {E : Nat → Value} {d : Option Nat} {ty : TypeId} {pos : String} {af : Array Edge} {g : Option (Nat × Bool)} {F : Nat → Prop} {w : World} {μ : kk} {L : List (Nat × Obj)}
variable {κ2 β : Type} {kenc2 : κ2 → Value} {vf : β → Value} {beq2 : κ2 → κ2 → Bool} {kt2 : TypeId}
theorem ML {j : Value → World → Prop} {Y R : List (Nat × Obj)} {t e : TypeId} {m x y : Operand} {p : Value} {i : List (κ × Value)} {l n : List (κ × List (κ2 × β))} {k : κ} {k2 : κ2} {v : β} (hk : ∀ {x y : κ}, beq x y = true → x = y) (K : pc P kt2 kenc2 beq2) (s : P.underlying t = some (.map kt2 e)) (b : ST dd F w W μ (R ++ Y)) (h : mK kenc (lN kenc2 vf) p i l R) (hm : jH E m = qP beq i k (.map none)) (u : jH E x = kenc2 k2) (z : jH E y = vf v) (r : FL beq beq2 l k k2 v = some n) (q : ∀ W' R', ST dd F w W' μ (R' ++ Y) → mK kenc (lN kenc2 vf) p i n R' → j undef W') : mY P E ⟨d, .mapUpdate t m x y, ty, pos, af, g⟩ W j :=
 NT [] hk K s b h hm u z r q
end
section
variable {dd : Bool}
variable {κ γ : Type} {Q : Value → γ → List (Nat × Obj) → Prop} {beq : κ → κ → Bool} {kenc : κ → Value}
variable {P : Program} {W : World} {kt : TypeId} {E : Nat → Value} {d : Option Nat} {ty : TypeId} {pos : String} {af : Array Edge} {g : Option (Nat × Bool)} {F : Nat → Prop} {w : World} {μ : kk} {L : List (Nat × Obj)}
variable {κ2 β : Type} {kenc2 : κ2 → Value} {vf : β → Value} {beq2 : κ2 → κ2 → Bool} {kt2 : TypeId}
theorem NZ {j : Value → World → Prop} {Y R R2 : List (Nat × Obj)} {t e : TypeId} {m x y : Operand} {i : Value} {p : List (κ × Value)} {l n : List (κ × γ)} {k : κ} {u : Value} {z : γ} (K : pc P kt kenc beq) (v : P.underlying t = some (.map kt e)) (b : ST dd F w W μ (R ++ (R2 ++ Y))) (h : mK kenc Q i p l R) (hm : jH E m = i) (A : jH E x = kenc k) (G : jH E y = u) (s : Q u z R2) (r : F5 beq l k z = some n) (q : ∀ W' R', ST dd F w W' μ (R' ++ Y) → mK kenc Q i (nT beq p k u) n R' → j undef W') : mY P E ⟨d, .mapUpdate t m x y, ty, pos, af, g⟩ W j :=
 M0 [] K v b h hm A G s r q
end
section
variable {dd : Bool}
variable {κ γ : Type} {Q : Value → γ → List (Nat × Obj) → Prop} {beq : κ → κ → Bool} {kenc : κ → Value}
variable {P : Program} {W : World} {kt : TypeId} {E : Nat → Value} {d : Option Nat} {ty : TypeId} {pos : String} {af : Array Edge} {g : Option (Nat × Bool)} {F : Nat → Prop} {w : World} {μ : kk} {L : List (Nat × Obj)}
theorem QO {j : Value → World → Prop} {Y R R1 : List (Nat × Obj)} {t e : TypeId} {m x y : Operand} {i : Value} {n : List (κ × Value)} {l : List (κ × γ)} {k : κ} {u : Value} {z : γ} (K : pc P kt kenc beq) (r : P.underlying t = some (.map kt e)) (b : ST dd F w W μ (R ++ (R1 ++ Y))) (h : MB beq kenc Q i n l k R) (hm : jH E m = i) (s : jH E x = kenc k) (v : jH E y = u) (q : Q u z R1) (p : ∀ W' R', ST dd F w W' μ (R' ++ Y) → mK kenc Q i (nT beq n k u) (nT beq l k z) R' → j undef W') : mY P E ⟨d, .mapUpdate t m x y, ty, pos, af, g⟩ W j :=
 RO [] K r b h hm s v q p
end
section
variable {dd : Bool}
variable {κ γ : Type} {Q : Value → γ → List (Nat × Obj) → Prop} {beq : κ → κ → Bool} {kenc : κ → Value}
variable {P : Program} {W : World} {kt : TypeId} {E : Nat → Value} {d : Option Nat} {ty : TypeId} {pos : String} {af : Array Edge} {g : Option (Nat × Bool)} {F : Nat → Prop} {w : World} {μ : kk} {L : List (Nat × Obj)}
theorem Me {n : Value → World → Prop} {Y R : List (Nat × Obj)} {t e : TypeId} {m x : Operand} {j z : Value} {x0 : γ} {A : List (κ × Value)} {l : List (κ × γ)} {k : κ} (hk : ∀ {x y : κ}, beq x y = true ↔ x = y) (K : pc P kt kenc beq) (r : P.underlying t = some (.map kt e)) (u : ∀ w, (zeroValue e).run P w = .ok z w) (i : Q z x0 []) (b : ST dd F w W μ (R ++ Y)) (h : mK kenc Q j A l R) (hm : jH E m = j) (s : jH E x = kenc k) (q : ∀ W' v p R' R1, ST dd F w W' μ (R' ++ (R1 ++ Y)) → Q v ((kZ beq l k).getD x0) R1 → II beq kenc Q j l k p R' → n (.tuple #[v, .int .i64 (p : Nat)]) W') : mY P E ⟨d, .mapEntry t m x, ty, pos, af, g⟩ W n :=
 Mo [] hk K r u i b h hm s q
end
section
variable {dd : Bool}
variable {κ γ : Type} {Q : Value → γ → List (Nat × Obj) → Prop} {beq : κ → κ → Bool} {kenc : κ → Value}
variable {P : Program} {W : World} {kt : TypeId} {E : Nat → Value} {d : Option Nat} {ty : TypeId} {pos : String} {af : Array Edge} {g : Option (Nat × Bool)} {F : Nat → Prop} {w : World} {μ : kk} {L : List (Nat × Obj)}
theorem Ka {n : Value → World → Prop} {Y R R1 : List (Nat × Obj)} {t e : TypeId} {m s y : Operand} {j u : Value} {z : γ} {l : List (κ × γ)} {k : κ} {p : Nat} (hk : ∀ {x y : κ}, beq x y = true ↔ x = y) (K : pc P kt kenc beq) (b : ST dd F w W μ (R ++ (R1 ++ Y))) (h : II beq kenc Q j l k p R) (hm : jH E m = j) (v : jH E s = .int .i64 (p : Nat)) (A : jH E y = u) (r : Q u z R1) (q : ∀ W' i R', ST dd F w W' μ (R' ++ Y) → mK kenc Q j i (nT beq l k z) R' → n undef W') : mY P E ⟨d, .entryStore t m s y, ty, pos, af, g⟩ W n :=
 Kc (e := e) [] hk K b h hm v A r q
end
section
variable {dd : Bool}
variable {α : Type} {e : TypeId} {enc : α → List Value} {k : Nat} {v : Value} {l : List α} {R : List (Nat × Obj)}
variable {P : Program} {W : World} {E : Nat → Value} {d : Option Nat} {ty : TypeId} {pos : String} {af : Array Edge} {g : Option (Nat × Bool)} {F : Nat → Prop} {w : World} {μ : kk} {L : List (Nat × Obj)}
theorem KA {K : Value → World → Prop} {t : TypeId} {b : Nat} {z vs : Value} {m r : List α} {Y : List (Nat × Obj)} {x y : Operand} {i : TypeInfo} (j : ST dd F w W μ (R ++ Y)) (hk : ∀ x, (enc x).length = k) (p : 0 < k) (h1 : ∀ x, ∀ u ∈ enc x, u.oneCell' = true) (M : P.underlying t = some (.slice e)) (J : P.info? e = some i) (T : i.zero = some z) (s : z.cells.size = k) (q : i.size = k) (n : i.bytes = b) (O : jH E x = v) (Q : jH E y = vs) (G : pN e enc k v l R) (L : Sl (Pl enc) k (hp W) vs m) (I : lX b l m = some r) (h : ∀ W' A R', ST dd F w W' μ (R' ++ Y) → pN e enc k A r R' → K A W') : mY P E ⟨d, .call ⟨.builtin .append, #[x, y], #[t, t]⟩, ty, pos, af, g⟩ W K :=
 Kx [] j hk p h1 M J T s q n O Q G L I h
end
section
variable {P : Program} {n : Nat} {Q : py} {E : Nat → Value} {W : World} {ops : Array Oper} {rest : List Oper}
variable {dd : Bool} {α : Type} {enc : α → List Value} {k : Nat} {μ : kk} {v : Value}
variable {d : Option Nat} {ty : TypeId} {pos : String} {af : Array Edge} {g : Option (Nat × Bool)} {F : Nat → Prop} {w : World} {L : List (Nat × Obj)}
theorem Jg {K : Value → World → Prop} {α : Type} {e t s : TypeId} {enc : α → List Value} {k b : Nat} {v : Value} {n : Int} {z : α} {r : List α} {Y : List (Nat × Obj)} {x y : Operand} {i : TypeInfo} (j : ST dd F w W μ Y) (hk : ∀ x, (enc x).length = k) (m : 0 < k) (J : P.underlying t = some (.slice e)) (q : P.underlying s = some (.int .i64)) (I : P.info? e = some i) (O : i.zero = some v) (p : i.size = k) (l : i.bytes = b) (G : v.cells = (enc z).toArray) (L : jH E x = .slice none 0 0) (M : jH E y = .int .i64 n) (A : G7 b z n = some r) (h : ∀ W' u R', ST dd F w W' μ (R' ++ Y) → jX e enc k u r R' → K u W') : mY P E ⟨d, .call ⟨.builtin .append, #[x, y], #[t, s]⟩, ty, pos, af, g⟩ W K :=
 I5 [] j hk m J q I O p l G L M A h
end
end Go.Proofs.YtjjjihkifgdhgaaGreatDoor
namespace Go.Proofs.YtjjjihkifgdhgaaGreatDoor
open Go.RowKit
variable [M : Md]
section
variable {P : Program} {n : Nat} {Q : py} {E : Nat → Value} {W : World} {ops : Array Oper} {rest : List Oper}
variable {d j t : Nat} {want : Bool} {v : Value} {ins : Go.Op} {ty : TypeId} {pos : String} {af : Array Edge} {A : Value → Prop}
theorem V (g : lR P E ⟨some d, ins, ty, pos, af, none⟩ W v W) (h : LW P n ops Q rest (nO E d v) W) (b : d < n := by decide) : LW P n ops Q (⟨some d, ins, ty, pos, af, none⟩ :: rest) E W := HB (.inl rfl) rfl b g h
theorem VE (h : mY P E ⟨some d, ins, ty, pos, af, none⟩ W fun v W' => LW P n ops Q rest (nO E d v) W') (b : d < n := by decide) : LW P n ops Q (⟨some d, ins, ty, pos, af, none⟩ :: rest) E W := QT (.inl rfl) rfl b h
theorem VO (h : mY P E ⟨none, ins, ty, pos, af, none⟩ W fun _ W' => LW P n ops Q rest E W') : LW P n ops Q (⟨none, ins, ty, pos, af, none⟩ :: rest) E W := Sx (.inl rfl) rfl h
theorem VQ (g : ∃ p, A p ∧ ∀ W, lR P E ⟨some d, ins, ty, pos, af, none⟩ W p W) (h : ∀ p, A p → LW P n ops Q rest (nO E d p) W) (b : d < n := by decide) : LW P n ops Q (⟨some d, ins, ty, pos, af, none⟩ :: rest) E W := R0 (.inl rfl) rfl b g h
theorem Vg (g : (ops[j]?).bind (·.dst) = some t) (b : E t = .bool want) (l : lR P E ⟨some d, ins, ty, pos, af, some (j, want)⟩ W v W) (h : LW P n ops Q rest (nO E d v) W) (m : t < n := by decide) (i : d < n := by decide) : LW P n ops Q (⟨some d, ins, ty, pos, af, some (j, want)⟩ :: rest) E W := HB (.inr ⟨j, want, t, rfl, g, m, b⟩) rfl i l h
theorem NM (g : (ops[j]?).bind (·.dst) = some t) (b : E t = .bool want) (h : mY P E ⟨some d, ins, ty, pos, af, some (j, want)⟩ W fun v W' => LW P n ops Q rest (nO E d v) W') (l : t < n := by decide) (i : d < n := by decide) : LW P n ops Q (⟨some d, ins, ty, pos, af, some (j, want)⟩ :: rest) E W := QT (.inr ⟨j, want, t, rfl, g, l, b⟩) rfl i h
theorem TW (g : (ops[j]?).bind (·.dst) = some t) (b : E t = .bool want) (l : ∃ p, A p ∧ ∀ W, lR P E ⟨some d, ins, ty, pos, af, some (j, want)⟩ W p W) (h : ∀ p, A p → LW P n ops Q rest (nO E d p) W) (m : t < n := by decide) (i : d < n := by decide) : LW P n ops Q (⟨some d, ins, ty, pos, af, some (j, want)⟩ :: rest) E W := R0 (.inr ⟨j, want, t, rfl, g, m, b⟩) rfl i l h
theorem Vn (g : (ops[j]?).bind (·.dst) = some t) (b : E t = .bool (!want)) (h : LW P n ops Q rest (nO E d undef) W) (l : t < n := by decide) (i : d < n := by decide) : LW P n ops Q (⟨some d, ins, ty, pos, af, some (j, want)⟩ :: rest) E W := Sf rfl i rfl g l b h
theorem Vu (g : (ops[j]?).bind (·.dst) = some t) (b : E t = undef) (h : LW P n ops Q rest (nO E d undef) W) (l : t < n := by decide) (i : d < n := by decide) : LW P n ops Q (⟨some d, ins, ty, pos, af, some (j, want)⟩ :: rest) E W := Rg rfl i rfl g l b h
end
section
variable {P : Program} {n : Nat} {Q : py} {E : Nat → Value} {W : World} {ops : Array Oper} {S : Array Bool → World → Prop} {fuel : Nat} {listed : Array Bool} {μ : kk} {B : List (Nat × Obj)}
variable {d j t : Nat} {want : Bool} {v : Value} {ins : Go.Op} {ty : TypeId} {pos : String} {af : Array Edge} {A : Value → Prop}
theorem X (i : Nat) (g : ops[i]? = some ⟨some d, ins, ty, pos, af, none⟩) (b : S (listed.setIfInBounds i true) W) (m : ∀ {W}, lR P E ⟨some d, ins, ty, pos, af, none⟩ W v W) (h : PX P n ops Q S fuel (listed.setIfInBounds i true) (nO E d v) W) (hk : BD ops listed i = true := by kernel_rfl) (hm : ∀ l w, S (l.setIfInBounds i true) w → S l w := by exact fun _ _ h => h) (j : d < n := by decide) : PX P n ops Q S (fuel + 1) listed E W := kR i g hk (.inl rfl) rfl j hm b (fun _ _ _ _ => m) h
theorem XH (i : Nat) (g : ops[i]? = some ⟨some d, ins, ty, pos, af, none⟩) (b : nn μ B W) (l : ∀ W, nn μ B W → lR P E ⟨some d, ins, ty, pos, af, none⟩ W v W) (h : PX P n ops Q (fun _ W => nn μ B W) fuel (listed.setIfInBounds i true) (nO E d v) W) (hk : BD ops listed i = true := by kernel_rfl) (j : d < n := by decide) : PX P n ops Q (fun _ W => nn μ B W) (fuel + 1) listed E W := kR i g hk (.inl rfl) rfl j (fun _ _ h => h) b (fun _ W _ h => l W h) h
theorem XQ (i : Nat) (g : ops[i]? = some ⟨some d, ins, ty, pos, af, none⟩) (b : S (listed.setIfInBounds i true) W) (m : ∃ p, A p ∧ ∀ W, lR P E ⟨some d, ins, ty, pos, af, none⟩ W p W) (h : ∀ p, A p → PX P n ops Q S fuel (listed.setIfInBounds i true) (nO E d p) W) (hk : BD ops listed i = true := by kernel_rfl) (hm : ∀ l w, S (l.setIfInBounds i true) w → S l w := by exact fun _ _ h => h) (j : d < n := by decide) : PX P n ops Q S (fuel + 1) listed E W := sd i g hk (.inl rfl) rfl j hm b m h
theorem XE (i : Nat) (b : ops[i]? = some ⟨some d, ins, ty, pos, af, none⟩) (h : mY P E ⟨some d, ins, ty, pos, af, none⟩ W fun v W' => S (listed.setIfInBounds i true) W' ∧ PX P n ops Q S fuel (listed.setIfInBounds i true) (nO E d v) W') (j : Region.ready .any ops listed = [i] := by kernel_rfl) (g : d < n := by decide) : PX P n ops Q S (fuel + 1) listed E W := Q2 i b j (.inl rfl) rfl g h
theorem XO (i : Nat) (b : ops[i]? = some ⟨none, ins, ty, pos, af, none⟩) (h : mY P E ⟨none, ins, ty, pos, af, none⟩ W fun _ W' => S (listed.setIfInBounds i true) W' ∧ PX P n ops Q S fuel (listed.setIfInBounds i true) E W') (d : Region.ready .any ops listed = [i] := by kernel_rfl) : PX P n ops Q S (fuel + 1) listed E W := Sj i b d (.inl rfl) rfl h
theorem Xg (i : Nat) (m : ops[i]? = some ⟨some d, ins, ty, pos, af, some (j, want)⟩) (p : (ops[j]?).bind (·.dst) = some t) (b : E t = .bool want) (g : S (listed.setIfInBounds i true) W) (s : ∀ {W}, lR P E ⟨some d, ins, ty, pos, af, some (j, want)⟩ W v W) (h : PX P n ops Q S fuel (listed.setIfInBounds i true) (nO E d v) W) (hk : BD ops listed i = true := by kernel_rfl) (hm : ∀ l w, S (l.setIfInBounds i true) w → S l w := by exact fun _ _ h => h) (r : t < n := by decide) (q : d < n := by decide) : PX P n ops Q S (fuel + 1) listed E W := kR i m hk (.inr ⟨j, want, t, rfl, p, r, b⟩) rfl q hm g (fun _ _ _ _ => s) h
theorem su (i : Nat) (l : ops[i]? = some ⟨some d, ins, ty, pos, af, some (j, want)⟩) (m : (ops[j]?).bind (·.dst) = some t) (b : E t = .bool want) (g : nn μ B W) (r : ∀ W, nn μ B W → lR P E ⟨some d, ins, ty, pos, af, some (j, want)⟩ W v W) (h : PX P n ops Q (fun _ W => nn μ B W) fuel (listed.setIfInBounds i true) (nO E d v) W) (hk : BD ops listed i = true := by kernel_rfl) (q : t < n := by decide) (p : d < n := by decide) : PX P n ops Q (fun _ W => nn μ B W) (fuel + 1) listed E W := kR i l hk (.inr ⟨j, want, t, rfl, m, q, b⟩) rfl p (fun _ _ h => h) g (fun _ W _ h => r W h) h
theorem Ac (i : Nat) (g : ops[i]? = some ⟨some d, ins, ty, pos, af, some (j, want)⟩) (l : (ops[j]?).bind (·.dst) = some t) (b : E t = .bool want) (h : mY P E ⟨some d, ins, ty, pos, af, some (j, want)⟩ W fun v W' => S (listed.setIfInBounds i true) W' ∧ PX P n ops Q S fuel (listed.setIfInBounds i true) (nO E d v) W') (p : Region.ready .any ops listed = [i] := by kernel_rfl) (q : t < n := by decide) (m : d < n := by decide) : PX P n ops Q S (fuel + 1) listed E W := Q2 i g p (.inr ⟨j, want, t, rfl, l, q, b⟩) rfl m h
theorem Xn (i : Nat) (m : ops[i]? = some ⟨some d, ins, ty, pos, af, some (j, want)⟩) (p : (ops[j]?).bind (·.dst) = some t) (b : E t = .bool (!want)) (g : S (listed.setIfInBounds i true) W) (h : PX P n ops Q S fuel (listed.setIfInBounds i true) (nO E d undef) W) (hk : BD ops listed i = true := by kernel_rfl) (hm : ∀ l w, S (l.setIfInBounds i true) w → S l w := by exact fun _ _ h => h) (r : t < n := by decide) (q : d < n := by decide) : PX P n ops Q S (fuel + 1) listed E W := SG i m hk rfl p r b rfl q hm g h
theorem Xu (i : Nat) (m : ops[i]? = some ⟨some d, ins, ty, pos, af, some (j, want)⟩) (p : (ops[j]?).bind (·.dst) = some t) (b : E t = undef) (g : S (listed.setIfInBounds i true) W) (h : PX P n ops Q S fuel (listed.setIfInBounds i true) (nO E d undef) W) (hk : BD ops listed i = true := by kernel_rfl) (hm : ∀ l w, S (l.setIfInBounds i true) w → S l w := by exact fun _ _ h => h) (r : t < n := by decide) (q : d < n := by decide) : PX P n ops Q S (fuel + 1) listed E W := QS i m hk rfl p r b rfl q hm g h
end
end Go.Proofs.YtjjjihkifgdhgaaGreatDoor
namespace Go.Proofs.YtjjjihkifgdhgaaGreatDoor
open Go.RowKit
section
variable {α β γ : Type}
inductive pa (Q : α → β → Prop) : List α → List β → Prop
 | nil : pa Q [] []
 | cons {a : α} {b : β} {l : List α} {m : List β} : Q a b → pa Q l m → pa Q (a :: l) (b :: m)
namespace pa
variable {Q Q' : α → β → Prop}
theorem length {l : List α} {m : List β} (h : pa Q l m) : l.length = m.length := by
 induction h with
 | nil => rfl
 | cons _ _ ih => simp [ih]
theorem imp {l : List α} {m : List β} (h : pa Q l m) (d : ∀ a b, Q a b → Q' a b) : pa Q' l m := by
 induction h with
 | nil => exact .nil
 | cons h1 _ ih => exact .cons (d _ _ h1) ih
theorem get {l : List α} {m : List β} (h : pa Q l m) : ∀ {i : Nat} {b : β}, m[i]? = some b → ∃ a, l[i]? = some a ∧ Q a b := by
 induction h with
 | nil => intro i b d; simp at d
 | cons h1 _ ih =>
  intro i b d
  cases i with
  | zero => simp at d; subst d; exact ⟨_, rfl, h1⟩
  | succ i => simpa using ih (by simpa using d)
theorem append {l b : List α} {m d : List β} (h : pa Q l m) (g : pa Q b d) : pa Q (l ++ b) (m ++ d) := by
 induction h with
 | nil => exact g
 | cons h1 _ ih => exact .cons h1 ih
theorem set {l : List α} {m : List β} (h : pa Q l m) {a : α} {b : β} (g : Q a b) : ∀ i : Nat, pa Q (l.set i a) (m.set i b) := by
 induction h with
 | nil => intro i; exact .nil
 | cons h1 d ih =>
  intro i
  cases i with
  | zero => exact .cons g d
  | succ i => exact .cons h1 (ih i)
theorem take {l : List α} {m : List β} (h : pa Q l m) : ∀ i : Nat, pa Q (l.take i) (m.take i) := by
 induction h with
 | nil => intro i; simp; exact .nil
 | cons h1 _ ih =>
  intro i
  cases i with
  | zero => exact .nil
  | succ i => exact .cons h1 (ih i)
theorem drop {l : List α} {m : List β} (h : pa Q l m) : ∀ i : Nat, pa Q (l.drop i) (m.drop i) := by
 induction h with
 | nil => intro i; simp; exact .nil
 | cons h1 b ih =>
  intro i
  cases i with
  | zero => exact .cons h1 b
  | succ i => exact ih i
end pa
theorem BZ {P : Nat → β → α → Prop} : ∀ {m : List β} (o : Nat), (∀ (i : Nat) (b : β), m[i]? = some b → ∃ a, P (o + i) b a) → ∃ l : List α, l.length = m.length ∧ ∀ (i : Nat) (b : β), m[i]? = some b → ∃ a, l[i]? = some a ∧ P (o + i) b a
 | [], _, _ => ⟨[], rfl, fun i b h => by simp at h⟩
 | b :: m, o, h => by
  obtain ⟨a, ha⟩ := h 0 b rfl
  obtain ⟨l, h1, g⟩ := BZ (m := m) (o + 1) (fun i b j => by
   obtain ⟨a, ha⟩ := h (i + 1) b (by simpa using j)
   exact ⟨a, by rw [show o + 1 + i = o + (i + 1) by omega]; exact ha⟩)
  refine ⟨a :: l, by simp [h1], fun i c d => ?_⟩
  cases i with
  | zero => simp at d; subst d; exact ⟨a, rfl, ha⟩
  | succ i =>
   obtain ⟨x, n, hp⟩ := g i c (by simpa using d)
   exact ⟨x, by simpa using n, by rw [show o + (i + 1) = o + 1 + i by omega]; exact hp⟩
theorem pa.NX {Q : α → β → Prop} : ∀ {l : List α} {m : List β}, l.length = m.length → (∀ (i : Nat) (a : α) (b : β), l[i]? = some a → m[i]? = some b → Q a b) → pa Q l m
 | [], [], _, _ => .nil
 | [], _ :: _, h, _ => by cases h
 | _ :: _, [], h, _ => by cases h
 | a :: l, b :: m, h, d => .cons (d 0 a b rfl rfl) (pa.NX (by simpa using h) (fun i x y g j => d (i + 1) x y (by simpa using g) (by simpa using j)))
end
structure Deep {β : Type} (R : pI β) (k : Nat) : Prop where
 mono : Gl R
 len : ∀ {μ ys x}, R μ ys x → ys.length = k
 one : ∀ {μ ys x}, R μ ys x → ∀ u ∈ ys, u.oneCell' = true
abbrev wF (k : Nat) := {ys : List Value // ys.length = k ∧ ∀ u ∈ ys, u.oneCell' = true}
def uV {k : Nat} (c : wF k) : List Value := c.1
theorem yO {k : Nat} (x : wF k) : (uV x).length = k := x.2.1
theorem Oj {k : Nat} (x : wF k) : ∀ u ∈ uV x, u.oneCell' = true := x.2.2
theorem Sl.Aj {α : Type} {R : pI α} {k : Nat} {μ : kk} {v : Value} {l : List α} (h : Sl R k μ v l) : v.oneCell' = true := by
 obtain ⟨A, c, rfl, _⟩ := h; rfl
section
variable {β : Type} {Rl : pI β} {k : Nat} {μ μ' : kk} {v : Value} {l : List β}
def Deep.cell (b : Deep Rl k) {ys : List Value} {x : β} (h : Rl μ ys x) : wF k := ⟨ys, b.len h, b.one h⟩
theorem Sl.raw (E : Deep Rl k) (h : Sl Rl k μ v l) : ∃ cl : List (wF k), Sl (Pl uV) k μ v cl ∧ pa (fun c x => Rl μ c.1 x) cl l := by
 obtain ⟨A, c, rfl, h1, t, w⟩ := h
 cases l with
 | nil => exact ⟨[], ⟨A, c, rfl, h1, t, fun h => absurd h (by simp)⟩, .nil⟩
 | cons x0 l =>
  obtain ⟨b, off, cs, T, fr, rfl, G, z⟩ := w (by simp)
  obtain ⟨cl, q, s⟩ := BZ (P := fun i x (c : wF k) => Rl μ c.1 x ∧ ∀ j y, c.1[j]? = some y → cs[off + i * k + j]? = some y) (m := x0 :: l) 0 (fun i x r => by
   obtain ⟨ys, _, g, n⟩ := z i x r
   exact ⟨E.cell g, g, by rw [dX]; exact n⟩)
  refine ⟨cl, ⟨_, c, by rw [q], by omega, t, fun _ => ⟨b, off, cs, T, fr, rfl, G, fun i c p => ?_⟩⟩, pa.NX q (fun i c x p r => ?_)⟩
  ·have I : i < (x0 :: l).length := by rw [← q]; exact (bH.1 p).1
   obtain ⟨u, d, _, n⟩ := s i _ (dP I)
   rw [p] at d; cases d
   exact ⟨c.1, c.2.1, rfl, by rw [dX] at n; exact n⟩
  ·obtain ⟨u, d, g, _⟩ := s i x r
   rw [p] at d; cases d
   exact g
theorem Sl.M7 {cl : List (wF k)} (h : Sl (Pl uV) k μ v cl) (u : kf μ μ') (ha : pa (fun c x => Rl μ' c.1 x) cl l) : Sl Rl k μ' v l := by
 obtain ⟨A, c, rfl, h1, n, p⟩ := h
 have d := ha.length
 refine ⟨A, c, by rw [d], by omega, n, fun y => ?_⟩
 obtain ⟨b, off, cs, T, fr, rfl, r, q⟩ := p (by omega)
 refine ⟨b, off, cs, T, fr, rfl, u _ _ r, fun i x w => ?_⟩
 obtain ⟨c, s, t⟩ := ha.get w
 obtain ⟨ys, g, j, m⟩ := q i c s
 cases j
 exact ⟨uV c, g, t, m⟩
def xo (Rl : pI β) (k : Nat) (μ : kk) (W : World) (v : Value) (l : List β) : Prop := ∃ cl : List (wF k), Sl (Pl uV) k (hp W) v cl ∧ pa (fun c x => Rl μ c.1 x) cl l
theorem xo.sl (d : Deep Rl k) {W : World} (h : Sl Rl k μ v l) (g : kf μ (hp W)) : xo Rl k μ W v l := by
 obtain ⟨cl, h1, b⟩ := h.raw d
 exact ⟨cl, h1.mono (Pl.mono _) g, b⟩
theorem Sl.Om {b m : Nat} {cl : List (wF k)} {cs : Array Value} {e : TypeId} (hm : cl.length = m) (d : m ≤ maxLen) (h : cs.toList = (cl.map uV).flatten) (g : μ b = some (.cells cs e (0, 0))) : Sl (Pl uV) k μ (.slice (some ⟨b, 0, none⟩) m m) cl := by
 subst hm
 refine ⟨_, _, rfl, aW _, d, fun _ => ⟨b, 0, _, _, _, rfl, g, fun i x l => ⟨uV x, yO x, rfl, fun j y n => ?_⟩⟩⟩
 have := xQ yO cl i x l j y n
 rw [← h] at this
 simpa using this
inductive CO (Rl : pI β) (k : Nat) (μ : kk) : List Value → List β → Prop
 | nil : CO Rl k μ [] []
 | cons {ys zs : List Value} {x : β} {l : List β} : Rl μ ys x → CO Rl k μ zs l → CO Rl k μ (ys ++ zs) (x :: l)
theorem CO.cells (d : Deep Rl k) {ys : List Value} (h : CO Rl k μ ys l) : ∃ cl : List (wF k), (cl.map uV).flatten = ys ∧ pa (fun c x => Rl μ c.1 x) cl l := by
 induction h with
 | nil => exact ⟨[], rfl, .nil⟩
 | cons h1 _ ih =>
  obtain ⟨cl, e, b⟩ := ih
  exact ⟨d.cell h1 :: cl, by rw [bJ, bO, e]; rfl, .cons h1 b⟩
theorem xo.lit (i : Deep Rl k) {W : World} {b m : Nat} {ys : List Value} {e : TypeId} (h : CO Rl k μ ys l) (hm : l.length = m) (j : m ≤ maxLen) (n : W.heap[b]? = some (.cells ys.toArray e (0, 0))) : xo Rl k μ W (.slice (some ⟨b, 0, none⟩) m m) l := by
 obtain ⟨cl, g, d⟩ := h.cells i
 exact ⟨cl, Sl.Om (by rw [d.length]; exact hm) j g.symm n, d⟩
theorem Sl.imp {R R' : pI β} (h : Sl R k μ v l) (r : ∀ ys x, R μ ys x → R' μ ys x) : Sl R' k μ v l := by
 obtain ⟨A, c, rfl, h1, d, g⟩ := h
 refine ⟨A, c, rfl, h1, d, fun s => ?_⟩
 obtain ⟨b, off, cs, T, fr, rfl, q, j⟩ := g s
 exact ⟨b, off, cs, T, fr, rfl, q, fun i x t => let ⟨ys, m, n, p⟩ := j i x t; ⟨ys, m, r _ _ n, p⟩⟩
theorem EE : ∀ (l : List Nat) (n : Nat), n ∈ l → n ≤ l.foldr max 0
 | [], n, h => by cases h
 | a :: l, n, h => by
  rcases aQ.1 h with rfl | h
  ·exact Nat.le_max_left _ _
  ·exact dL (EE l n h) (Nat.le_max_right _ _)
theorem Sl.SI {R : pI β} {d : Nat → pI β} (h : Sl R k μ v l) (G : ∀ ys x, R μ ys x → ∃ n, d n μ ys x) (up : ∀ n m ys x, n ≤ m → d n μ ys x → d m μ ys x) : ∃ n, Sl (d n) k μ v l := by
 obtain ⟨A, c, rfl, h1, t, z⟩ := h
 by_cases u : 0 < l.length
 ·obtain ⟨b, off, cs, T, fr, rfl, I, E⟩ := z u
  obtain ⟨L, M, w⟩ := BZ (P := fun i x (p : Nat × List Value) => p.2.length = k ∧ d p.1 μ p.2 x ∧ ∀ j y, p.2[j]? = some y → cs[off + i * k + j]? = some y) (m := l) 0 (fun i x s => by
   obtain ⟨ys, q, r, g⟩ := E i x s
   obtain ⟨n, J⟩ := G _ _ r
   exact ⟨(n, ys), q, J, by rw [dX]; exact g⟩)
  refine ⟨(L.map (·.1)).foldr max 0, _, c, rfl, h1, t, fun _ => ⟨b, off, cs, T, fr, rfl, I, fun i x s => ?_⟩⟩
  obtain ⟨p, hp, q, r, g⟩ := w i x s
  exact ⟨p.2, q, up _ _ _ _ (EE _ _ (bM.2 ⟨p, dm hp, rfl⟩)) r, by rw [dX] at g; exact g⟩
 ·exact ⟨0, A, c, rfl, h1, t, fun h => absurd h u⟩
def kE (e : TypeId) (Rl : pI β) (k : Nat) (μ : kk) (v : Value) (l : List β) (B : List (Nat × Obj)) : Prop := ∃ cl : List (wF k), jX e uV k v cl B ∧ pa (fun c x => Rl μ c.1 x) cl l
variable {e : TypeId} {B : List (Nat × Obj)}
theorem kE.mono (d : Deep Rl k) (h : kE e Rl k μ v l B) (g : kf μ μ') : kE e Rl k μ' v l B := by
 obtain ⟨cl, h1, b⟩ := h
 exact ⟨cl, h1, b.imp (fun _ _ h => d.mono _ _ _ _ g h)⟩
theorem kE.nil (e : TypeId) (Rl : pI β) (k : Nat) (μ : kk) : kE e Rl k μ (.slice none 0 0) [] [] := ⟨[], jX.nil _ _ _, .nil⟩
theorem kE.lit (i : Deep Rl k) {b m : Nat} {ys : List Value} (h : CO Rl k μ ys l) (hm : l.length = m) (j : m ≤ maxLen) (n : ys.length = m * k) : kE e Rl k μ (.slice (some ⟨b, 0, none⟩) m m) l [(b, .cells ys.toArray e (0, 0))] := by
 obtain ⟨cl, g, d⟩ := h.cells i
 exact ⟨cl, jX.lit (by rw [d.length]; exact hm) j g.symm (by simpa using n), d⟩
theorem kE.form (h : kE e Rl k μ v l B) : ∃ A c, v = .slice A l.length c := by
 obtain ⟨cl, h1, b⟩ := h
 rw [← b.length]; exact h1.form
theorem kE.len (h : kE e Rl k μ v l B) : l.length ≤ 9223372036854775807 := by
 obtain ⟨cl, h1, b⟩ := h
 rw [← b.length]; exact h1.len
theorem kE.nd (h : kE e Rl k μ v l B) : (B.map (·.1)).Nodup := let ⟨_, h1, _⟩ := h; h1.nd
theorem kE.isNil {n c : Nat} (h : kE e Rl k μ (.slice none n c) l B) : l = [] := by
 obtain ⟨cl, h1, b⟩ := h
 have := b.length
 rw [h1.isNil] at this
 exact aV this.symm
theorem kE.sl (h : kE e Rl k μ v l B) (g : Deep Rl k) (i : kf μ μ') (hm : ∀ b o, (b, o) ∈ B → μ' b = some o) : Sl Rl k μ' v l := by
 obtain ⟨cl, h1, d⟩ := h
 exact Sl.M7 (h1.sl yO hm) (kf.refl _) (d.imp (fun _ _ h => g.mono _ _ _ _ i h))
end
section
variable {β : Type} {Rl : pI β} {k : Nat} {μ : kk} {v : Value} {l : List β} {e : TypeId} {B : List (Nat × Obj)}
variable {dd : Bool} {F : Nat → Prop} {w W : World} {L : List (Nat × Obj)}
theorem kE.Rj (h : kE e Rl k μ v l B) (d : Deep Rl k) (b : ST dd F w W μ L) (g : ∀ p, p ∈ B → p ∈ L) : Sl Rl k (hp W) v l := h.sl d b.jB (fun _ _ i => b.at_ (g _ i))
theorem xo.row (h : kE e Rl k μ v l B) (b : ST dd F w W μ L) (g : ∀ p, p ∈ B → p ∈ L) : xo Rl k μ W v l := let ⟨cl, h1, d⟩ := h; ⟨cl, h1.Rj yO b g, d⟩
theorem ST.tD {Y : List (Nat × Obj)} (i : Deep Rl k) (b : ST dd F w W μ (B ++ Y)) (h : kE e Rl k μ v l B) : ∃ μ', ST dd F w W μ' Y ∧ kf μ μ' ∧ Lo F w μ μ' ∧ Sl Rl k μ' v l := by
 obtain ⟨cl, h1, g⟩ := h
 obtain ⟨μ', d, a2, a4, a3⟩ := ST.QW b h1 yO
 exact ⟨μ', d, a2, a4, Sl.M7 a3 (kf.refl _) (g.imp (fun _ _ h => i.mono _ _ _ _ a2 h))⟩
variable {P : Program} {E : Nat → Value} {d : Option Nat} {ty : TypeId} {pos : String} {af : Array Edge} {g : Option (Nat × Bool)}
theorem lF {t e' : TypeId} {x b : Operand} {G : IntKind} {i : Int} {x0 : β} {A : List Value → Prop} (s : ∀ {ys}, Rl μ ys x0 → A ys) (y : P.underlying t = some (.slice e')) (he : ∀ w, (sizeOf e').run P w = .ok k w) (z : jH E x = v) (q : jH E b = .int G i) (u : Sl Rl k μ v l) (h : 0 ≤ i) (r : l[i.toNat]? = some x0) :
  ∃ p, (∃ ys, A ys ∧ At μ p ys) ∧ ∀ W, lR P E ⟨d, .indexAddr t x b, ty, pos, af, g⟩ W p W := by
 obtain ⟨p, ys, _, j, m, n⟩ := HG (d := d) (ty := ty) (pos := pos) (af := af) (g := g) y he z q u h r
 exact ⟨p, ⟨ys, s j, m⟩, n⟩
theorem rS {x : Operand} {t e' : TypeId} (b : P.underlying t = some (.slice e')) (i : jH E x = v) (h : kE e Rl k μ v l B) : lR P E ⟨d, .call ⟨.builtin .len, #[x], #[t]⟩, ty, pos, af, g⟩ W (.int .i64 l.length) W := by
 obtain ⟨A, c, rfl⟩ := h.form
 exact ze b i
theorem li {t e' : TypeId} {x m : Operand} {J : IntKind} {i : Int} {x0 : β} {A : List Value → Prop} (y : ∀ {ys}, Rl μ ys x0 → A ys) (G : P.underlying t = some (.slice e')) (he : ∀ w, (sizeOf e').run P w = .ok k w) (I : jH E x = v) (s : jH E m = .int J i) (h : kE e Rl k μ v l B) (n : 0 ≤ i) (u : l[i.toNat]? = some x0) :
  ∃ p, (∃ ys, A ys ∧ At (B4 B) p ys ∧ yH B k p i.toNat) ∧ ∀ W, lR P E ⟨d, .indexAddr t x m, ty, pos, af, g⟩ W p W := by
 obtain ⟨cl, h1, q⟩ := h
 obtain ⟨c, j, z⟩ := q.get u
 obtain ⟨p, b, r⟩ := nv (d := d) (ty := ty) (pos := pos) (af := af) (g := g) G he I s h1 n j
 exact ⟨p, ⟨c.1, y z, b.at h1 yO j, b⟩, r⟩
theorem OC {α i : Type} {b : Nat} {l m r : List α} {d g : List i} (h : lX b l m = some r) (h1 : d.length = l.length) (j : g.length = m.length) : lX b d g = some (d ++ g) ∧ r = l ++ m := by
 unfold lX at h ⊢
 rw [h1, j]
 split at h
 ·rename_i n; cases h; rw [bB n]; exact ⟨rfl, rfl⟩
 ·cases h
theorem po {K : Value → World → Prop} {t : TypeId} {b : Nat} {z vs : Value} {m r : List β} {Y : List (Nat × Obj)} {x y : Operand} {i : TypeInfo} (hD : Deep Rl k) (n : ST dd F w W μ (B ++ Y)) (s : 0 < k) (T : P.underlying t = some (.slice e)) (Q : P.info? e = some i) (hz : i.zero = some z) (A : z.cells.size = k) (u : i.size = k) (q : i.bytes = b) (U : jH E x = v) (Z : jH E y = vs) (M : kE e Rl k μ v l B) (R : xo Rl k μ W vs m) (O : lX b l m = some r) (h : ∀ W' j R', ST dd F w W' μ (R' ++ Y) → kE e Rl k μ j r R' → K j W') : mY P E ⟨d, .call ⟨.builtin .append, #[x, y], #[t, t]⟩, ty, pos, af, g⟩ W K := by
 obtain ⟨cl, h1, G⟩ := M
 obtain ⟨cm, L, I⟩ := R
 obtain ⟨p, rfl⟩ := OC O G.length I.length
 exact mz n yO s Oj T Q hz A u q U Z h1 L p (fun W' j R' J a2 => h W' j R' J ⟨_, a2, G.append I⟩)
theorem qm {K : Value → World → Prop} {Y : List (Nat × Obj)} {t : TypeId} {x y : Operand} {p : Value} {i : Nat} {x0 x1 : β} {ys : List Value} (q : Deep Rl k) (b : ST dd F w W μ (B ++ Y)) (h : kE e Rl k μ v l B) (A : jH E x = p) (G : jH E y = .agg ys.toArray) (m : Rl μ ys x1) (hp : yH B k p i) (z : l[i]? = some x0) (s : ∀ w, (sizeOf t).run P w = .ok k w) (r : ∀ W' R', ST dd F w W' μ (R' ++ Y) → kE e Rl k μ v (l.set i x1) R' → K undef W') : mY P E ⟨d, .store t x y, ty, pos, af, g⟩ W K := by
 obtain ⟨cl, h1, j⟩ := h
 obtain ⟨c, u, _⟩ := j.get z
 exact CK (x1 := q.cell m) b h1 yO Oj A G rfl hp u s (fun W' R' n a2 => r W' R' n ⟨_, a2, j.set m i⟩)
end
end Go.Proofs.YtjjjihkifgdhgaaGreatDoor
namespace Go.Proofs.YtjjjihkifgdhgaaGreatDoor
open Go.RowKit
def lP (dd : Bool) (P : Program) (f : FuncId) (args : List Value) (w : World) (μ0 : kk) (L0 : List (Nat × Obj)) (K : Value → List (Nat × Obj) → kk → Prop) : Prop :=
 Calls P f args.toArray w fun e b => ∃ v L1 μ1, e = .returned v ∧ tF dd L0 L1 w b ∧ kf μ0 μ1 ∧ Lo (keys L0) w μ0 μ1 ∧ kf μ1 (uc b L1) ∧ K v L1 μ1
theorem lP.lz {dd : Bool} {P : Program} {f : FuncId} {args : List Value} {w : World} {μ0 : kk} {L0 : List (Nat × Obj)} {K : Value → List (Nat × Obj) → kk → Prop} (h : lP true P f args w μ0 L0 K) : lP dd P f args w μ0 L0 K :=
 dr h fun _ _ ⟨v, L1, μ1, h1, b, d⟩ => ⟨v, L1, μ1, h1, b.lz, d⟩
section
variable {dd : Bool} {F : Nat → Prop} {w W W' : World} {μ μ1 : kk} {L L0 L1 L2 : List (Nat × Obj)}
theorem ST.R3 (h : ST dd F w W μ (L0 ++ L)) (j : tF dd L0 L1 W W') (l : Lo (keys L0) W μ μ1) (i : kf μ1 (uc W' L1)) : ST dd F w W' μ1 (L1 ++ L) := by
 have h1 := h.back j
 refine ⟨h1.os, h1.tape, h1.output, h1.drawn, h1.size, h1.lZ, fun b o hm => ?_, fun b o d => ?_, h1.nd⟩
 ·have := i b o hm
  unfold uc at this
  split at this
  ·cases this
  ·exact this
 ·obtain ⟨m, p, n⟩ := h1.box b o d
  refine ⟨m, ?_, n⟩
  rcases aU.1 d with d | d
  ·cases hm : μ1 b with
   | none => rfl
   | some x =>
    have := i b x hm
    unfold uc at this
    rw [bB ⟨o, d⟩] at this
    cases this
  ·have g := h.box b o (dY _ d)
   rw [l b (nQ g.1) (ER h.nd d)]
   exact g.2.1
variable {P : Program} {E : Nat → Value} {d : Option Nat} {ty : TypeId} {pos : String} {af : Array Edge} {g : Option (Nat × Bool)}
theorem OZ {K : Value → World → Prop} {K' : Value → List (Nat × Obj) → kk → Prop} {f : FuncId} {fv : Operand} {ax : Array Operand} {ats : Array TypeId} {j : Array Value} {args : List Value} (L0 L2 : List (Nat × Obj)) (i : ST dd F w W μ L) (l : L.Perm (L0 ++ L2)) (z : jH E fv = .func (.func f) #[] j) (he : ∀ args w, (callFunc f args).run P w = .ok (.enter f args) w) (ha : ax.map (jH E) ++ (#[] : Array Value) = args.toArray) (y : Er L0 W → (L0.map (·.1)).Nodup → kf μ (uc W L0) → (∀ b o, (b, o) ∈ L2 → uc W L0 b = some o) → lP dd P f (args ++ j.toList) W μ L0 K') (h : ∀ W' v μ' L1, ST dd F w W' μ' (L1 ++ L2) → kf μ μ' → Lo F w μ μ' → K' v L1 μ' → K v W') : mY P E ⟨d, .call ⟨.value fv, ax, ats⟩, ty, pos, af, g⟩ W K := by
 have m : ax.map (jH E) = args.toArray := by simpa using ha
 refine EQ (args := (args ++ j.toList).toArray) z he (by rw [m]; simp) (dr (y (i.held l) (i.QX l) (i.RL l) (i.Lr l)) (fun _ W' ⟨v, L1, μ1, h1, p, r, n, s, t⟩ => ⟨v, h1, h W' v μ1 L1 ((i.perm l).R3 p n s) r (fun b x u => n b (ee x i.size) (fun ⟨o, A⟩ => by
  rcases ((i.perm l).box b o (cK _ A)).2.2 with q | q
  ·omega
  ·exact u q)) t⟩))
end
theorem pZ.Aj {κ γ : Type} {kenc : κ → Value} {Q : Value → γ → List (Nat × Obj) → Prop} {μ : kk} {v : Value} {l : List (κ × γ)} (h : pZ kenc Q μ v l) : v.oneCell' = true := by
 obtain ⟨b, R, h, _⟩ := h
 obtain ⟨m, rfl⟩ := h.form
 rfl
theorem vR.Aj {κ β : Type} {kenc : κ → Value} {vf : β → Value} {μ : kk} {v : Value} {l : List (κ × β)} (h : vR kenc vf μ v l) : v.oneCell' = true := by
 obtain ⟨m, rfl⟩ := h.form
 rfl
end Go.Proofs.YtjjjihkifgdhgaaGreatDoor
