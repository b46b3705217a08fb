/- a part of a proof of ChangeMoves -/
import Derived.WalkKit
import Derived.WalkLawsBesides
import Derived.TacticsIn
import Derived.OrdersIn
import Derived.ControlIn
import Derived.Maps.AppendAt
import Derived.OrdersHeld
import Derived.Laws.IdiomStrings
import Derived.Maps.RangeRun
import Derived.Lib.BytesEntry
import Derived.Lib.Bytealg
import Derived.Laws.Externs
import Derived.ChangeKeysEq
import Derived.Deep.AppendSrc
import Derived.Laws.MakeOwn
set_option linter.all false
namespace Go.Proofs.YtjjjihkifgdhgaaGreatDoor
open Go.RowKit
def aA := @Option.bind_some
def aC := @Bool.false_eq_true
def aF := @List.length_append
def aG := @Int.natCast_nonneg
def aH := @List.drop_length
def aK := @if_false
def aM := @List.append_assoc
def aQ := @List.length_cons
def aR := @List.mem_cons
def aS := @List.cons.injEq
def aT := @Nat.exists_eq_succ_of_ne_zero
def aU := @if_true
def aV := @List.eq_nil_of_length_eq_zero
def aW := @List.mem_append
def aX := @Nat.le_refl
def aY := @run_underlying
def aZ := @beq_self_eq_true
def bo := @Bool.and_eq_true
def bA := @congrArg
def bB := @if_pos
def bE := @if_neg
def bF := @List.getElem?_eq_some_iff
def bG := @Nat.lt_succ_self
def bH := @List.nil_append
def bI := @List.append_nil
def bJ := @List.mem_map
def bK := @Result.andThen_ok
def bL := @List.map_cons
def bN := @List.flatten_cons
def bO := @decide_eq_true_eq
def bP := @List.mem_singleton
def bQ := @Bool.eq_iff_iff
def bT := @List.Perm.refl
def bU := @List.cons_append
def bV := @List.length_nil
def bX := @List.nodup_append
def bZ := @Sem.run_bind
def cA := @decide_true
def cC := @List.Perm.append_left
def cD := @decide_false
def cE := @List.map_append
def cH := @List.pairwise_cons
def cI := @List.mem_append_left
def cJ := @Bool.not_true
def cK := @and_true
def cM := @List.flatten_append
def cN := @Nat.mul_le_mul_right
def cR := @Nat.add_mul
def cT := @List.mem_filter
def cU := @List.pairwise_append
def cV := @Calls.mono
def cW := @Sem.run_pure
def cX := @List.getElem?_eq_getElem
def cY := @List.mem_of_getElem?
def cZ := @List.length_take
def dl := @List.not_mem_nil
def dm := @List.length_map
def dn := @DataW.trod_struct
def dp := @Bool.not_false
def dq := @Nat.le_trans
def du := @List.eq_nil_or_concat
def dv := @Array.length_toList
def dy := @List.flatten_nil
def dz := @Addr.add_lit
def dB := @List.getElem?_take_of_lt
def dE := @List.nodup_cons
def dF := @Array.getElem?_eq_some_iff
def dG := @List.size_toArray
def dH := @Int.toNat_natCast
def dI := @List.take_of_length_le
def dK := @Nat.min_eq_left
def dL := @List.filter_cons
def dM := @Array.getElem?_modify
def dN := @Array.getElem?_toList
def dO := @List.concat_eq_append
def dS := @List.getElem?_drop
def dU := @List.mem_append_right
def dW := @Bool.true_and
def dX := @Bool.eq_false_or_eq_true
def dY := @Nat.lt_of_lt_of_le
def dZ := @Nat.eq_zero_or_pos
def eb := @List.length_eq_zero_iff
def ed := @List.all_eq_true
def ef := @List.any_eq_true
def ei := @List.findIdx?_eq_some_iff_getElem
def ep := @Option.map_some
def et := @List.perm_append_comm
def eu := @List.length_zipIdx
def ev := @Nat.add_assoc
def ew := @Nat.zero_add
def ez := @Nat.zero_le
def eA := @List.ext_getElem?
def eB := @List.getElem?_map
def eC := @Array.getD_eq_getD_getElem?
def eE := @List.map_map
def eK := @List.getElem?_append_right
def eL := @List.findIdx?_cons
def eO := @List.length_filter_le
def eP := @Classical.byContradiction
def eQ := @List.getElem?_set
def eS := @List.mem_cons_of_mem
def eT := @List.map_nil
def eW := @List.sum_cons
def eX := @ByteArray.toList_eq
def eY := @List.perm_middle
def eZ := @List.take_append
def fa := @or_false
def fe := @Bool.false_and
def fg := @Bool.not_eq_true
def fh := @List.eq_nil_iff_forall_not_mem
def fi := @cell_of_row
def fj := @List.getElem?_take
def fp := @List.find?_cons
def fq := @Option.some.inj
def ft := @Bool.or_eq_true
def fz := @List.getElem?_eq_none
def fA := @Function.comp_def
def fB := @List.pairwise_map
def fC := @List.perm_append_comm_assoc
def fD := @Bool.not_eq_true'
def fE := @List.getElem?_append
def fG := @List.perm_append_singleton
def fH := @List.length_drop
def fM := @List.getElem?_append_left
def fN := @List.findIdx?_eq_none_iff
def fO := @run_callFunc_extern
def fP := @List.filter_eq_self
def fQ := @ByteArray.ext
def fV := @List.all_cons
def fW := @List.any_cons
def fX := @List.foldl_cons
def ga := @beq_iff_eq
def gb := @eq_iff_iff
def gd := @List.find?_eq_none
def gf := @List.getElem?_cons_zero
def gh := @List.pairwise_mergeSort
def gi := @List.pairwise_singleton
def gj := @List.take_take
def gk := @List.findIdx?_map
def gl := @Nat.add_zero
def gm := @Option.some.injEq
def gn := @List.Perm.append_right
def gp := @Go.Lib.strCells_length
def gv := @Bool.and_assoc
def gw := @Bool.not_not
def gx := @List.flatMap_cons
def gC := @List.singleton_append
def gD := @List.getElem?_toArray
def gE := @Nat.div_lt_iff_lt_mul
def gF := @List.take_append_drop
def gG := @Option.getD_some
def gJ := @List.findIdx?_append
def gL := @List.forall_mem_cons
def gN := @List.length_set
def gP := @List.filter_nil
def gQ := @List.Perm.nodup_iff
def gS := @List.mergeSort_perm
def gT := @List.flatMap_append
def gU := @List.take_length_add_append
def ic := @run_loadCells_list
def ie := @grownCap_le_maxLen
def ig := @List.drop_take
def ij := @List.take_left
def iq := @List.map_mergeSort
def iz := @List.filter_append
def iA := @UInt8.toNat_lt
def iB := @Bool.and_false
def iC := @Nat.le_succ
def iD := @run_storeCells_at
def iE := @Nat.mul_one
def iL := @UInt8.ofNat_toNat
def iM := @List.find?_append
def iN := @of_decide_eq_true
def iR := @Bool.and_self
def iS := @List.mem_flatten
def iT := @List.zipIdx_cons
def iY := @List.mem_flatMap
def iZ := @callsIn_wide
def jf := @Oper.upon_value
def jg := @Oper.upon_enter
def jj := @Nat.one_mul
def jk := @getD_set_ne
def jr := @wpIn_mono
def js := @mem_ready
class Md where
 ro : Option Nat
 D : List Deferred
instance Bm : Md := ⟨none, []⟩
theorem zA {ro : Option Nat} {P : Program} {ρ : Operand → Value} {o : Oper} {W W' : World} {x : Next} (h : (execOp ρ o).run P W = .ok x W') (g : ∀ d, x ≠ .defer d) : (Oper.semAt ro ρ o).run P W = .ok x W' := by
 cases ro with
 | none => exact h
 | some l =>
  rw [Oper.semAt_eq]
  ·exact h
  ·intro c b
   have e : (execOp ρ o) = (resolve ρ c o.type >>= fun d => pure (Next.defer d)) := by
    unfold execOp; rw [b]
   rw [e, bZ] at h
   cases a : (resolve ρ c o.type).run P W with
   | ok d w => rw [a, bK] at h; cases h; exact g d rfl
   | halt z w => rw [a] at h; cases h
def Md.F (M : Md) : Fence := { Fence.wide with round := M.ro }
theorem Oe {M : Md} {n : Nat} {P : Program} {f : FuncId} {args : Array Value} {w : World} {R : Ending → World → Prop} : CallsIn M.F n P f args w R ↔ Calls P f args w R := iZ
theorem IQ {M : Md} {n : Nat} {P : Program} {f : FuncId} {args : Array Value} {w : World} {R : Ending → World → Prop} (h : Calls P f args w R) : (M.F.depth.isSome = true → 1 ≤ n) ∧ CallsIn M.F (n - 1) P f args w R :=
 ⟨fun e => (nomatch (show (none : Option Nat).isSome = true from e)), Oe.2 h⟩
variable [M : Md]
def nS (E : Nat → Value) (d : Nat) (v : Value) : Nat → Value := fun t => if t = d then v else E t
def jK (E : Nat → Value) : Operand → Value
 | .tmp t => E t
 | .const v => v
 | .global g => .pointer (some ⟨g, 0, none⟩)
 | .func f => .func (.func f) #[] #[]
def Ag (n : Nat) (a : Act) (E : Nat → Value) : Prop := a.tmps.size = n ∧ a.defers = M.D ∧ ∀ t, a.tmps.getD t undef = E t
section
variable {n : Nat} {a : Act} {E : Nat → Value}
theorem Ag.eval (h : Ag n a E) : a.eval = jK E := by
 funext x
 cases x with
 | tmp t => exact h.2.2 t
 | const v => rfl
 | global g => rfl
 | func f => rfl
theorem Ag.put (h : Ag n a E) {d : Nat} (i : d < n) (v : Value) : Ag n (a.put (some d) v) (nS E d v) := by
 refine ⟨by simp [Act.put, h.1], h.2.1, fun t => ?_⟩
 have g := h.2.2 t
 simp only [Act.put, nS]
 by_cases b : t = d
 ·subst b
  simp [h.1, i]
 ·have : ¬ d = t := fun e => b e.symm
  rw [bE b, ← g]
  simp [eC, this]
theorem Ag.zM (h : Ag n a E) (v : Value) : Ag n (a.put none v) E := h
theorem Ag.yield (h : Ag n a E) {ops : Array Oper} {j t : Nat} {b : Bool} (g : (ops[j]?).bind (·.dst) = some t) (k : t < n) (l : E t = .bool b) : yielded ops a.tmps j = some b := by
 have d := h.2.2 t
 have i : a.tmps[t]? = some (E t) := by
  rw [← d]
  simp [eC, h.1, k]
 simp [yielded, g, i, l]
end
abbrev qj := Exit → (Nat → Value) → World → Prop
def E0 : Nat → Value := fun _ => undef
def lift (n : Nat) (Q : qj) : Exit → Act → World → Prop
 | .panic c, a, w => a.defers = M.D ∧ Q (.panic c) E0 w
 | .outgrown, _, _ => False
 | e, a, w => ∃ E, Ag n a E ∧ Q e E w
theorem Ke {n : Nat} {Q : qj} {c : List PanicEntry} {a : Act} {d : Option Nat} {v : Value} {w : World} (h : lift n Q (.panic c) (a.put d v) w) : lift n Q (.panic c) a w := by
 cases d <;> exact h
def CW (P : Program) (n : Nat) (c : Code) (Q : qj) (E : Nat → Value) (W : World) : Prop := ∀ a, Ag n a E → c.wpIn M.F 0 P (lift n Q) a W
def LW (P : Program) (n : Nat) (ops : Array Oper) (Q : qj) (l : List Oper) (E : Nat → Value) (W : World) : Prop := ∀ a, Ag n a E → wpListIn M.F 0 P ops (lift n Q) l a W
def qz (K : (Nat → Value) → World → Prop) (Q : qj) : qj
 | .normal, E, W => K E W
 | e, E, W => Q e E W
def wP (id : Nat) (Q : qj) : qj
 | .exit j, E, W => if j = id then Q .normal E W else Q (.exit j) E W
 | e, E, W => Q e E W
section
variable {P : Program} {n : Nat} {Q : qj} {E : Nat → Value} {W : World} {c x y : Code} {ops : Array Oper} {rest : List Oper} {o : Oper}
theorem IA {Q' : qj} (h : CW P n c Q E W) (g : ∀ e E W, Q e E W → Q' e E W) : CW P n c Q' E W := fun a ha =>
 jr (h a ha) (fun e _ _ h => by
  cases e with
  | panic c => exact ⟨h.1, g _ _ _ h.2⟩
  | outgrown => exact h
  | _ => obtain ⟨E', b, d⟩ := h; exact ⟨E', b, g _ _ _ d⟩)
theorem jM (h : CW P n x (qz (fun E W => CW P n y Q E W) Q) E W) : CW P n (.seq x y) Q E W := fun a ha =>
 wpIn_seq (jr (h a ha) (fun e d i h => by
  cases e with
  | normal => obtain ⟨E', b, g⟩ := h; exact g d b
  | _ => exact h))
theorem kX (h : Q .normal E W) : CW P n .skip Q E W := fun _ ha => wpIn_skip ⟨E, ha, h⟩
theorem kh (h : Q .ret E W) : CW P n .ret Q E W := fun _ ha => wpIn_ret ⟨E, ha, h⟩
theorem mF {id : Nat} (h : Q (.exit id) E W) : CW P n (.exit id) Q E W := fun _ ha => wpIn_exit ⟨E, ha, h⟩
theorem kZ {id : Nat} (h : CW P n c (wP id Q) E W) : CW P n (.block id c) Q E W := fun a ha =>
 wpIn_block (jr (h a ha) (fun e i k h => by
  cases e with
  | exit j =>
   obtain ⟨E', b, d⟩ := h
   simp only [Exit.inBlock]
   simp only [wP] at d
   split at d
   ·rename_i g; rw [bB g]; exact ⟨E', b, d⟩
   ·rename_i g; rw [bE g]; exact ⟨E', b, d⟩
  | _ => exact h))
theorem Np {co : Operand} {b : Bool} (d : jK E co = .bool b) (i : b = true → CW P n x Q E W) (g : b = false → CW P n y Q E W) : CW P n (.cond co x y) Q E W := fun a ha => by
 refine wpIn_cond_split (t := b) (by rw [ha.eval]; exact d) (fun h => i h a ha) (fun h => g h a ha)
theorem xg {co : Operand} (a : jK E co = .bool true) (h : CW P n x Q E W) : CW P n (.cond co x y) Q E W := Np a (fun _ => h) (fun h => by cases h)
theorem qI {co : Operand} (a : jK E co = .bool false) (h : CW P n y Q E W) : CW P n (.cond co x y) Q E W := Np a (fun h => by cases h) (fun _ => h)
theorem jL {id : Nat} {l : List Oper} (h : LW P n l.toArray Q l E W) : CW P n (.region id l.toArray false) Q E W := fun a ha => wpIn_region_lit (h a ha)
theorem kk (h : Q .normal E W) : LW P n ops Q [] E W := fun _ ha => wpListIn_nil ⟨E, ha, h⟩
theorem H7 {P : Program} {F : Fence} {n : Nat} {c : Code} {Q : Exit → Act → World → Prop} {a : Act} {w : World} (I : Nat → Act → World → Prop) (m : Nat) (j : I m a w) (round : ∀ m a w, I m a w → c.wpIn F n P (Exit.then (fun l p => ∃ g, g < m ∧ I g l p) Q) a w) : (Code.loop c).wpIn F n P Q a w := by
 classical
 let J : Act → World → Prop := fun a w => ∃ m, I m a w
 have least : ∀ a w, J a w → ∃ m, I m a w ∧ ∀ k, I k a w → m ≤ k := fun a w ⟨m, hm⟩ => by
  induction m using Nat.strongRecOn with
  | _ m ih =>
   by_cases h : ∃ k, k < m ∧ I k a w
   ·obtain ⟨k, hk, b⟩ := h; exact ih k hk b
   ·exact ⟨m, hm, fun k b => Nat.le_of_not_lt fun d => h ⟨k, d, b⟩⟩
 let μ : Act → World → Nat := fun a w => if h : J a w then Classical.choose (least a w h) else 0
 have i : ∀ a w (h : J a w), I (μ a w) a w ∧ ∀ k, I k a w → μ a w ≤ k := fun a w h => by
  have e : μ a w = Classical.choose (least a w h) := dif_pos h
  rw [e]; exact Classical.choose_spec (least a w h)
 refine wpIn_loop J μ ⟨m, j⟩ fun a w t => jr (round _ a w (i a w t).1) fun e l p h => ?_
 cases e with
 | normal => obtain ⟨g, d, b⟩ := h; exact ⟨⟨g, b⟩, Nat.lt_of_le_of_lt ((i l p ⟨g, b⟩).2 g b) d⟩
 | _ => exact h
theorem mG (I : Nat → (Nat → Value) → World → Prop) (m : Nat) (b : I m E W) (round : ∀ m E W, I m E W → CW P n c (qz (fun E' W' => ∃ d, d < m ∧ I d E' W') Q) E W) : CW P n (.loop c) Q E W := fun a ha =>
 H7 (fun m a w => ∃ E, Ag n a E ∧ I m E w) m ⟨E, ha, b⟩ (fun m a w ⟨E, ha, k⟩ =>
  jr (round m E w k a ha) (fun e l p h => by
   cases e with
   | normal => obtain ⟨E', i, d, j, g⟩ := h; exact ⟨d, j, E', i, g⟩
   | _ => exact h))
def sW (n : Nat) (ops : Array Oper) (E : Nat → Value) (o : Oper) : Prop :=
 o.guard = none ∨ ∃ j want t, o.guard = some (j, want) ∧ (ops[j]?).bind (·.dst) = some t ∧ t < n ∧ E t = .bool want
theorem sW.of {a : Act} (h : sW n ops E o) (ha : Ag n a E) : Region.wanted o (yielded ops a.tmps) = true := by
 rcases h with h | ⟨j, want, t, d, g, i, b⟩
 ·simp [Region.wanted, h]
 ·simp [Region.wanted, d, ha.yield g i b]
theorem Ow {d : Nat} {v : Value} {W' : World} (hw : sW n ops E o) (b : o.dst = some d) (g : d < n) (i : (execOp (jK E) o).run P W = .ok (.value v) W') (h : LW P n ops Q rest (nS E d v) W') : LW P n ops Q (o :: rest) E W := fun a ha => by
 unfold wpListIn
 rw [bB (hw.of ha)]
 unfold Oper.wpIn
 refine ⟨fun _ _ => trivial, ?_⟩
 rw [ha.eval, zA i (by simp), Oper.uponIn_value, b]
 exact h _ (ha.put g v)
theorem Pq {W' : World} (hw : sW n ops E o) (b : o.dst = none) (d : (execOp (jK E) o).run P W = .ok .skip W') (h : LW P n ops Q rest E W') : LW P n ops Q (o :: rest) E W := fun a ha => by
 unfold wpListIn
 rw [bB (hw.of ha)]
 unfold Oper.wpIn
 refine ⟨fun _ _ => trivial, ?_⟩
 rw [ha.eval, zA d (by simp), Oper.uponIn_skip, b]
 exact h _ (ha.zM _)
theorem PY {f : FuncId} {args : Array Value} {d : Nat} (hw : sW n ops E o) (g : o.dst = some d) (j : d < n) (k : (execOp (jK E) o).run P W = .ok (.enter f args) W) (h : Calls P f args W fun e b => ∃ v, e = .returned v ∧ LW P n ops Q rest (nS E d v) b) : LW P n ops Q (o :: rest) E W := fun a ha => by
 unfold wpListIn
 rw [bB (hw.of ha)]
 unfold Oper.wpIn
 refine ⟨fun _ _ => trivial, ?_⟩
 rw [ha.eval, zA k (by simp), Oper.uponIn_enter]
 refine IQ (cV h ?_)
 rintro e b ⟨v, rfl, i⟩
 simp only [g]
 exact i _ (ha.put j v)
theorem TF {d j t : Nat} {want : Bool} (g : o.dst = some d) (l : d < n) (i : o.guard = some (j, want)) (k : (ops[j]?).bind (·.dst) = some t) (m : t < n) (b : E t = .bool (!want)) (h : LW P n ops Q rest (nS E d undef) W) : LW P n ops Q (o :: rest) E W := fun a ha => by
 unfold wpListIn
 have p := ha.yield k m b
 rw [bE (by simp [Region.wanted, i, p])]
 rw [g]
 exact ⟨fun _ _ => trivial, h _ (ha.put l _)⟩
end
end Go.Proofs.YtjjjihkifgdhgaaGreatDoor
namespace Go.Proofs.YtjjjihkifgdhgaaGreatDoor
open Go.RowKit
variable {dd : Bool}
abbrev km := Nat → Option Obj
def hp (W : World) : km := fun b => W.heap[b]?
def tH (dd : Bool) (a b : Nat) : Prop := dd = true → a ≤ b
theorem tH.of {dd : Bool} {a b : Nat} (h : a ≤ b) : tH dd a b := fun _ => h
theorem tH.trans {dd : Bool} {a b c : Nat} (h : tH dd a b) (k : tH dd b c) : tH dd a c := fun e => dq (h e) (k e)
structure Ex (dd : Bool) (w W : World) : Prop where
 os : W.os = w.os
 tape : W.tape = w.tape
 output : W.output = w.output
 drawn : tH dd w.drawn W.drawn
 size : w.heap.size ≤ W.heap.size
 lZ : ∀ b, b < w.heap.size → W.heap[b]? = w.heap[b]?
theorem Ex.refl (w : World) : Ex dd w w := ⟨rfl, rfl, rfl, tH.of (aX _), aX _, fun _ _ => rfl⟩
theorem Ex.trans {a b c : World} (h : Ex dd a b) (k : Ex dd b c) : Ex dd a c :=
 ⟨k.os.trans h.os, k.tape.trans h.tape, k.output.trans h.output, tH.trans h.drawn k.drawn, dq h.size k.size, fun i d => (k.lZ i (dY d h.size)).trans (h.lZ i d)⟩
theorem Ex.drew (w : World) : Ex dd w w.drew := ⟨rfl, rfl, rfl, tH.of (iC _), aX _, fun _ _ => rfl⟩
theorem Ex.alloc (w : World) (o : Obj) : Ex dd w (w.alloc o) := ⟨rfl, rfl, rfl, tH.of (aX _), by show w.heap.size ≤ (w.heap.push o).size; simp, fun k hk => Below.heap_alloc w o k hk⟩
theorem Ex.lE {w W : World} (h : Ex true w W) : Ex dd w W := ⟨h.os, h.tape, h.output, tH.of (h.drawn rfl), h.size, h.lZ⟩
def kj (μ μ' : km) : Prop := ∀ b o, μ b = some o → μ' b = some o
theorem kj.refl (μ : km) : kj μ μ := fun _ _ h => h
theorem kj.trans {a b c : km} (h : kj a b) (k : kj b c) : kj a c := fun x o d => k x o (h x o d)
structure ST (dd : Bool) (F : Nat → Prop) (w W : World) (μ : km) (L : List (Nat × Obj)) : Prop where
 os : W.os = w.os
 tape : W.tape = w.tape
 output : W.output = w.output
 drawn : tH dd w.drawn W.drawn
 size : w.heap.size ≤ W.heap.size
 lZ : ∀ b, b < w.heap.size → ¬ F b → W.heap[b]? = w.heap[b]?
 mem : ∀ b o, μ b = some o → W.heap[b]? = some o
 box : ∀ b o, (b, o) ∈ L → W.heap[b]? = some o ∧ μ b = none ∧ (w.heap.size ≤ b ∨ F b)
 nd : (L.map (·.1)).Nodup
def kx : Nat → Prop := fun _ => False
theorem ST.start (w : World) : ST dd kx w w (hp w) [] :=
 ⟨rfl, rfl, rfl, tH.of (aX _), aX _, fun _ _ _ => rfl, fun _ _ h => h, fun _ _ h => (by cases h), by simp⟩
section
variable {F : Nat → Prop} {w W W' : World} {μ μ' : km} {L L' : List (Nat × Obj)}
theorem ST.ex (h : ST dd kx w W μ L) : Ex dd w W := ⟨h.os, h.tape, h.output, h.drawn, h.size, fun b a => h.lZ b a (fun x => x)⟩
theorem Qi (W : World) (o : Obj) : (W.alloc o).heap[W.heap.size]? = some o := heap_alloc_new W o
theorem nV {W : World} {b : Nat} {o : Obj} (h : W.heap[b]? = some o) : b < W.heap.size := (dF.1 h).1
theorem ST.drew (h : ST dd F w W μ L) : ST dd F w W.drew μ L :=
 ⟨h.os, h.tape, h.output, tH.trans h.drawn (tH.of (iC _)), h.size, h.lZ, h.mem, h.box, h.nd⟩
theorem ST.Hp (h : ST dd F w W μ L) {b : Nat} {o : Obj} (a : (b, o) ∈ L) : b < W.heap.size := nV (h.box b o a).1
theorem ST.alloc (h : ST dd F w W μ L) (o : Obj) : ST dd F w (W.alloc o) μ ((W.heap.size, o) :: L) := by
 refine ⟨h.os, h.tape, h.output, h.drawn, dq h.size (Ex.alloc (dd := true) W o).size, fun b a j => ?_, fun b d a => ?_, fun b d a => ?_, ?_⟩
 ·rw [(Ex.alloc (dd := true) W o).lZ b (dY a h.size)]; exact h.lZ b a j
 ·have := h.mem b d a
  rw [(Ex.alloc (dd := true) W o).lZ b (nV this)]; exact this
 ·rcases aR.1 a with e | a
  ·cases e
   refine ⟨Qi W o, ?_, .inl h.size⟩
   cases hm : μ W.heap.size with
   | none => rfl
   | some x => have := nV (h.mem _ _ hm); omega
  ·obtain ⟨h1, g, i⟩ := h.box b d a
   exact ⟨by rw [(Ex.alloc (dd := true) W o).lZ b (nV h1)]; exact h1, g, i⟩
 ·simp only [bL, dE]
  refine ⟨fun hm => ?_, h.nd⟩
  obtain ⟨⟨b, d⟩, a, e⟩ := bJ.1 hm
  have := h.Hp a
  simp at e
  omega
theorem ST.put {A B : List (Nat × Obj)} {b : Nat} {o n : Obj} (h : ST dd F w W μ (A ++ (b, o) :: B)) (y : W'.os = W.os ∧ W'.tape = W.tape ∧ W'.output = W.output ∧ W.drawn ≤ W'.drawn ∧ W'.heap.size = W.heap.size) (g : ∀ k, k ≠ b → W'.heap[k]? = W.heap[k]?) (z : W'.heap[b]? = some n) : ST dd F w W' μ (A ++ (b, n) :: B) := by
 obtain ⟨h1, p, t, u, v⟩ := y
 have d := h.box b o (by simp)
 have a := h.nd
 simp only [cE, bL] at a
 have i : ∀ x o, (x, o) ∈ A → x ≠ b := fun x o l e => by
  subst e
  have := (bX.1 a).2.2 x (bJ.2 ⟨_, l, rfl⟩) x (by simp)
  exact this rfl
 have j : ∀ x o, (x, o) ∈ B → x ≠ b := fun x o l e => by
  subst e
  have := (dE.1 (bX.1 a).2.1).1
  exact this (bJ.2 ⟨_, l, rfl⟩)
 refine ⟨h1.trans h.os, p.trans h.tape, t.trans h.output, tH.trans h.drawn (tH.of u), by rw [v]; exact h.size, fun k hk m => ?_, fun k x hk => ?_, fun k x hk => ?_, by simpa using a⟩
 ·rw [g k (fun e => by subst e; rcases d.2.2 with h | h; omega; exact m h)]
  exact h.lZ k hk m
 ·rw [g k (fun e => by subst e; rw [d.2.1] at hk; cases hk)]
  exact h.mem k x hk
 ·rcases aW.1 hk with hk | hk
  ·rw [g k (i k x hk)]; exact h.box k x (by simp [hk])
  ·rcases aR.1 hk with e | hk
   ·cases e; exact ⟨z, d.2⟩
   ·rw [g k (j k x hk)]; exact h.box k x (by simp [hk])
def Lo (F : Nat → Prop) (w : World) (μ μ' : km) : Prop := ∀ b, b < w.heap.size → ¬ F b → μ' b = μ b
theorem Lo.refl {F : Nat → Prop} {w : World} {μ : km} : Lo F w μ μ := fun _ _ _ => rfl
theorem Lo.trans {F : Nat → Prop} {w : World} {a b c : km} (h : Lo F w a b) (k : Lo F w b c) : Lo F w a c := fun x g d => (k x g d).trans (h x g d)
def grow (μ : km) (W W' : World) : km := fun b => if b < W.heap.size then μ b else W'.heap[b]?
theorem ST.FN (h : ST dd F w W μ L) {b : Nat} {o : Obj} (a : μ b = some o) : b < W.heap.size := nV (h.mem b o a)
theorem ST.call (h : ST dd F w W μ L) (d : Ex dd W W') : ST dd F w W' (grow μ W W') L := by
 refine ⟨d.os.trans h.os, d.tape.trans h.tape, d.output.trans h.output, tH.trans h.drawn d.drawn, dq h.size d.size, fun b a k => ?_, fun b o a => ?_, fun b o a => ?_, h.nd⟩
 ·rw [d.lZ b (dY a h.size)]; exact h.lZ b a k
 ·unfold grow at a
  split at a
  ·rename_i g; rw [d.lZ b g]; exact h.mem b o a
  ·exact a
 ·obtain ⟨h1, i, j⟩ := h.box b o a
  exact ⟨by rw [d.lZ b (nV h1)]; exact h1, by unfold grow; rw [bB (nV h1)]; exact i, j⟩
theorem ST.O6 (h : ST dd F w W μ L) (W' : World) : kj μ (grow μ W W') := fun b o a => by
 unfold grow; rw [bB (h.FN a)]; exact a
theorem ST.lE (h : ST dd F w W μ' L) (d : kj μ μ') : ST dd F w W μ L :=
 ⟨h.os, h.tape, h.output, h.drawn, h.size, h.lZ, fun b o a => h.mem b o (d b o a), fun b o a => by
  obtain ⟨h1, g, i⟩ := h.box b o a
  refine ⟨h1, ?_, i⟩
  cases hm : μ b with
  | none => rfl
  | some x => (have := d b x hm; rw [g] at this; cases this), h.nd⟩
theorem ST.HC (h : ST dd F w W μ L) (a : Ex dd W W') : ST dd F w W' μ L := (h.call a).lE (h.O6 W')
theorem ST.jB (h : ST dd F w W μ L) : kj μ (hp W) := h.mem
def Mi (μ : km) (b : Nat) (o : Obj) : km := fun k => if k = b then some o else μ k
theorem ST.IR {A B : List (Nat × Obj)} {b : Nat} {o : Obj} (h : ST dd F w W μ (A ++ (b, o) :: B)) : ST dd F w W (Mi μ b o) (A ++ B) := by
 have g := h.box b o (by simp)
 have a := h.nd
 simp only [cE, bL] at a
 have j : ∀ x y, (x, y) ∈ A ++ B → x ≠ b := fun x y d e => by
  subst e
  rcases aW.1 d with d | d
  ·exact (bX.1 a).2.2 x (bJ.2 ⟨_, d, rfl⟩) x (by simp) rfl
  ·exact (dE.1 (bX.1 a).2.1).1 (bJ.2 ⟨_, d, rfl⟩)
 refine ⟨h.os, h.tape, h.output, h.drawn, h.size, h.lZ, fun k x hk => ?_, fun k x hk => ?_, ?_⟩
 ·unfold Mi at hk
  split at hk
  ·rename_i e; cases hk; rw [e]; exact g.1
  ·exact h.mem k x hk
 ·have i : (k, x) ∈ A ++ (b, o) :: B := by
   rcases aW.1 hk with h | h <;> simp [h]
  obtain ⟨h1, l, m⟩ := h.box k x i
  exact ⟨h1, by unfold Mi; rw [bE (j k x hk)]; exact l, m⟩
 ·have : (A ++ B).Sublist (A ++ (b, o) :: B) := List.Sublist.append (List.Sublist.refl A) (List.sublist_cons_self _ _)
  exact List.Nodup.sublist (this.map _) h.nd
theorem ST.Ix {A B : List (Nat × Obj)} {b : Nat} {o : Obj} (h : ST dd F w W μ (A ++ (b, o) :: B)) : kj μ (Mi μ b o) := fun k x hk => by
 unfold Mi
 split
 ·rename_i e; subst e; rw [(h.box k o (by simp)).2.1] at hk; cases hk
 ·exact hk
theorem ST.OL {A B : List (Nat × Obj)} {b : Nat} {o : Obj} (h : ST dd F w W μ (A ++ (b, o) :: B)) : Lo F w μ (Mi μ b o) := fun k hk d => by
 refine bE (fun e => ?_)
 subst e
 rcases (h.box k o (by simp)).2.2 with a | a
 ·omega
 ·exact d a
theorem ST.drop {A B : List (Nat × Obj)} {p : Nat × Obj} (h : ST dd F w W μ (A ++ p :: B)) : ST dd F w W μ (A ++ B) :=
 (h.IR (b := p.1) (o := p.2)).lE h.Ix
end
abbrev qe (α : Type) := km → List Value → α → Prop
def Sl {α : Type} (R : qe α) (k : Nat) (μ : km) (v : Value) (l : List α) : Prop :=
 ∃ A c, v = .slice A l.length c ∧ l.length ≤ c ∧ c ≤ maxLen ∧ (0 < l.length → ∃ b off cs T fr, A = some ⟨b, off, none⟩ ∧ μ b = some (.cells cs T fr) ∧
  ∀ i x, l[i]? = some x → ∃ ys, ys.length = k ∧ R μ ys x ∧ ∀ j y, ys[j]? = some y → cs[off + i * k + j]? = some y)
def At (μ : km) (v : Value) (ys : List Value) : Prop :=
 ∃ b off cs T fr, v = .pointer (some ⟨b, off, none⟩) ∧ μ b = some (.cells cs T fr) ∧ ∀ j y, ys[j]? = some y → cs[off + j]? = some y
def Fr (B : Nat) (v : Value) : Prop := ∀ b, v.ownBlock = some b → B ≤ b
def JK {α : Type} (R : qe α) : Prop := ∀ μ μ' ys x, kj μ μ' → R μ ys x → R μ' ys x
def Pl {α : Type} (enc : α → List Value) : qe α := fun _ ys x => ys = enc x
theorem Pl.mono {α : Type} (enc : α → List Value) : JK (Pl enc) := fun _ _ _ _ _ h => h
theorem Sl.mono {α : Type} {R : qe α} (y : JK R) {k : Nat} {μ μ' : km} {v : Value} {l : List α} (h : Sl R k μ v l) (d : kj μ μ') : Sl R k μ' v l := by
 obtain ⟨A, c, h1, g, j, m⟩ := h
 refine ⟨A, c, h1, g, j, fun z => ?_⟩
 obtain ⟨b, off, cs, T, fr, n, p, t⟩ := m z
 exact ⟨b, off, cs, T, fr, n, d _ _ p, fun i x E => let ⟨ys, u, w, a⟩ := t i x E; ⟨ys, u, y _ _ _ _ d w, a⟩⟩
theorem At.mono {μ μ' : km} {v : Value} {ys : List Value} (h : At μ v ys) (g : kj μ μ') : At μ' v ys := by
 obtain ⟨b, off, cs, T, fr, h1, a, d⟩ := h
 exact ⟨b, off, cs, T, fr, h1, g _ _ a, d⟩
theorem Sl.len {α : Type} {R : qe α} {k : Nat} {μ : km} {v : Value} {l : List α} (h : Sl R k μ v l) : l.length ≤ 9223372036854775807 := by
 obtain ⟨A, c, h1, b, a, d⟩ := h
 unfold maxLen at a
 omega
theorem Sl.nil {α : Type} (R : qe α) (k : Nat) (μ : km) : Sl R k μ (.slice none 0 0) [] := ⟨none, 0, rfl, aX _, by decide, fun h => absurd h (by simp)⟩
theorem Fr.mono {B B' : Nat} {v : Value} (h : Fr B v) (a : B' ≤ B) : Fr B' v := fun b d => dq a (h b d)
theorem Fr.nil (B : Nat) : Fr B (.slice none 0 0) := fun b a => by simp [Value.ownBlock] at a
end Go.Proofs.YtjjjihkifgdhgaaGreatDoor
namespace Go.Proofs.YtjjjihkifgdhgaaGreatDoor
open Go.RowKit
variable [M : Md]
variable {dd : Bool}
section
variable {P : Program} {n : Nat} {Q : qj} {E : Nat → Value} {W : World} {ops : Array Oper} {rest : List Oper}
 {d : Option Nat} {ty : TypeId} {pos : String} {af : Array Edge} {g : Option (Nat × Bool)}
 {F : Nat → Prop} {w : World} {μ : km} {L : List (Nat × Obj)}
def lQ (P : Program) (E : Nat → Value) (o : Oper) (W : World) (v : Value) (W' : World) : Prop := (execOp (jK E) o).run P W = .ok (.value v) W'
theorem IN {o : Oper} {dd : Nat} {v : Value} (hw : sW n ops E o) (a : o.dst = some dd) (b : dd < n) (d : lQ P E o W v W) (h : LW P n ops Q rest (nS E dd v) W) : LW P n ops Q (o :: rest) E W := Ow hw a b d h
theorem jH {x : Operand} {v : Value} (a : jK E x = v) : lQ P E ⟨d, .move x, ty, pos, af, g⟩ W v W := by rw [← a]; rfl
theorem mP {x : Operand} {v : Value} (a : jK E x = v) : lQ P E ⟨d, .assign x, ty, pos, af, g⟩ W v W := by rw [← a]; rfl
theorem jS {c x y : Operand} {v : Value} (a : jK E c = .bool true) (b : jK E x = v) : lQ P E ⟨d, .pick c x y, ty, pos, af, g⟩ W v W := by
 show (do pure (.value (if ← asBool (jK E c) then jK E x else jK E y)) : Sem Next).run P W = _
 rw [a, ← b]; simp [asBool]
theorem jT {c x y : Operand} {v : Value} (a : jK E c = .bool false) (b : jK E y = v) : lQ P E ⟨d, .pick c x y, ty, pos, af, g⟩ W v W := by
 show (do pure (.value (if ← asBool (jK E c) then jK E x else jK E y)) : Sem Next).run P W = _
 rw [a, ← b]; simp [asBool]
theorem Fw {x : Operand} {i : Nat} {vs : Array Value} {v : Value} (b : jK E x = .tuple vs) (a : vs[i]? = some v) : lQ P E ⟨d, .extract x i, ty, pos, af, g⟩ W v W := by
 show (do pure (.value (← Instr.extract (jK E x) i)) : Sem Next).run P W = _
 rw [b]; simp [Instr.extract, a]
theorem mT {u : TypeId} {x : Operand} {b : Bool} (a : jK E x = .bool b) : lQ P E ⟨d, .unOp .not u x, ty, pos, af, g⟩ W (.bool !b) W := by
 show (do pure (.value (← Op.unary .not (jK E x))) : Sem Next).run P W = _
 rw [a]; simp [Op.unary]
theorem M4 {fn : Fn} {first caps : Array Operand} {v : Value} (a : .func fn (first.map (jK E)) (caps.map (jK E)) = v) : lQ P E ⟨d, .makeFunc fn first caps, ty, pos, af, g⟩ W v W := by
 show (do pure (.value (← Instr.makeFunc fn (first.map (jK E)) (caps.map (jK E)))) : Sem Next).run P W = _
 rw [← a]; simp [Instr.makeFunc]
def JI (k : IntKind) (op : BinOp) (a b : Int) : Option Value :=
 match op with
 | .eql => some (.bool (a == b))
 | .neq => some (.bool (a != b))
 | .lss => some (.bool (decide (a < b)))
 | .leq => some (.bool (decide (a ≤ b)))
 | .gtr => some (.bool (decide (a > b)))
 | .geq => some (.bool (decide (a ≥ b)))
 | .add => some (.int k (k.wrap (a + b)))
 | .sub => some (.int k (k.wrap (a - b)))
 | .mul => some (.int k (k.wrap (a * b)))
 | _ => none
theorem kG {op : BinOp} {tx tv : TypeId} {x y : Operand} {k : IntKind} {a b : Int} {v : Value} (i : jK E x = .int k a) (j : jK E y = .int k b) (h : JI k op a b = some v) :
  lQ P E ⟨d, .binOp op tx x y tv, ty, pos, af, g⟩ W v W := by
 show (do let r ← (do eqGuard op tx x y (jK E x) (jK E y); binOp op tx (jK E x) (jK E y)); pure (.value r) : Sem Next).run P W = _
 rw [i, j]
 cases op <;> simp [JI] at h <;> subst h <;> simp [eqGuard, binOp, Op.intCmp, Op.intArith]
def QK (op : BinOp) (a b : ByteArray) : Option Value :=
 match op with
 | .eql => some (.bool (a.toList == b.toList))
 | .neq => some (.bool !(a.toList == b.toList))
 | .lss => some (.bool (Op.bytesLess a.toList b.toList))
 | .leq => some (.bool (Op.bytesLess a.toList b.toList || a.toList == b.toList))
 | .gtr => some (.bool !(Op.bytesLess a.toList b.toList || a.toList == b.toList))
 | .geq => some (.bool !(Op.bytesLess a.toList b.toList))
 | _ => none
def pS (a b : ByteArray) : Option ByteArray := if ((a.size + b.size : Nat) : Int) > IntKind.i64.max then none else some (a ++ b)
theorem pM {op : BinOp} {tx tv : TypeId} {x y : Operand} {a b : ByteArray} {v : Value} (i : jK E x = .string a) (j : jK E y = .string b) (h : QK op a b = some v) :
  lQ P E ⟨d, .binOp op tx x y tv, ty, pos, af, g⟩ W v W := by
 show (do let r ← (do eqGuard op tx x y (jK E x) (jK E y); binOp op tx (jK E x) (jK E y)); pure (.value r) : Sem Next).run P W = _
 rw [i, j]
 cases op <;> simp [QK] at h <;> subst h <;> simp [eqGuard, binOp, Op.stringOp]
theorem oR {tx tv : TypeId} {x y : Operand} {a b r : ByteArray} (i : jK E x = .string a) (j : jK E y = .string b) (h : pS a b = some r) :
  lQ P E ⟨d, .binOp .add tx x y tv, ty, pos, af, g⟩ W (.string r) W := by
 show (do let r ← (do eqGuard .add tx x y (jK E x) (jK E y); binOp .add tx (jK E x) (jK E y)); pure (.value r) : Sem Next).run P W = _
 rw [i, j]
 simp only [pS] at h
 split at h
 ·cases h
 ·rename_i hle; cases h; simp [eqGuard, binOp, Op.stringOp]; simpa using hle
theorem IL {op : BinOp} {tx tv : TypeId} {x y : Operand} {a b : Bool} (i : P.underlying tx = some .bool) (j : jK E x = .bool a) (k : jK E y = .bool b) (h : op = .eql) :
  lQ P E ⟨d, .binOp op tx x y tv, ty, pos, af, g⟩ W (.bool (a == b)) W := by
 subst h
 show (do let r ← (do eqGuard .eql tx x y (jK E x) (jK E y); binOp .eql tx (jK E x) (jK E y)); pure (.value r) : Sem Next).run P W = _
 rw [j, k]
 simp [eqGuard, binOp, Op.equal, Op.maxDepth, run_equalIn_bool' W 9999 tx a b i]
theorem P6 {op : BinOp} {tx tv : TypeId} {x y : Operand} {a b : Bool} (i : P.underlying tx = some .bool) (j : jK E x = .bool a) (k : jK E y = .bool b) (h : op = .neq) :
  lQ P E ⟨d, .binOp op tx x y tv, ty, pos, af, g⟩ W (.bool (a != b)) W := by
 subst h
 show (do let r ← (do eqGuard .neq tx x y (jK E x) (jK E y); binOp .neq tx (jK E x) (jK E y)); pure (.value r) : Sem Next).run P W = _
 rw [j, k]
 simp [eqGuard, binOp, Op.equal, Op.maxDepth, run_equalIn_bool' W 9999 tx a b i, bne]
theorem uY {tx tv : TypeId} {x y : Operand} {a b : Array Value} {r : Bool} (j : jK E x = .agg a) (k : jK E y = .agg b) (h : ∀ W, (eqGuard .eql tx x y (.agg a) (.agg b)).run P W = .ok () W) (i : ∀ W, (binOp .eql tx (.agg a) (.agg b)).run P W = .ok (.bool r) W) : lQ P E ⟨d, .binOp .eql tx x y tv, ty, pos, af, g⟩ W (.bool r) W := by
 show (do let r ← (do eqGuard .eql tx x y (jK E x) (jK E y); binOp .eql tx (jK E x) (jK E y)); pure (.value r) : Sem Next).run P W = _
 rw [j, k]; simp [h W, i W]
theorem D6 {tx tv : TypeId} {x y : Operand} {a b : Array Value} {r : Bool} (j : jK E x = .agg a) (k : jK E y = .agg b) (h : ∀ W, (eqGuard .neq tx x y (.agg a) (.agg b)).run P W = .ok () W) (i : ∀ W, (binOp .neq tx (.agg a) (.agg b)).run P W = .ok (.bool r) W) : lQ P E ⟨d, .binOp .neq tx x y tv, ty, pos, af, g⟩ W (.bool r) W := by
 show (do let r ← (do eqGuard .neq tx x y (jK E x) (jK E y); binOp .neq tx (jK E x) (jK E y)); pure (.value r) : Sem Next).run P W = _
 rw [j, k]; simp [h W, i W]
theorem BZ {t e : TypeId} (dd : Nat) (b : P.underlying t = some (.pointer e)) (a : Option Addr) (W : World) : (Op.equalIn (dd + 1) t (.pointer a) (.pointer none)).run P W = .ok a.isNone W := by
 cases a <;> simp [Op.equalIn, aY b]
theorem uH {tx tv e : TypeId} {x y : Operand} {a : Option Addr} (h : P.underlying tx = some (.pointer e)) (i : jK E x = .pointer a) (j : jK E y = .pointer none) :
  lQ P E ⟨d, .binOp .eql tx x y tv, ty, pos, af, g⟩ W (.bool a.isNone) W := by
 show (do let r ← (do eqGuard .eql tx x y (jK E x) (jK E y); binOp .eql tx (jK E x) (jK E y)); pure (.value r) : Sem Next).run P W = _
 rw [i, j]
 have b := BZ 9999 h a W
 simp [eqGuard, binOp, Op.equal, show Op.maxDepth = 9999 + 1 from rfl, b]
theorem D5 {tx tv e : TypeId} {x y : Operand} {a : Option Addr} (h : P.underlying tx = some (.pointer e)) (i : jK E x = .pointer a) (j : jK E y = .pointer none) :
  lQ P E ⟨d, .binOp .neq tx x y tv, ty, pos, af, g⟩ W (.bool !a.isNone) W := by
 show (do let r ← (do eqGuard .neq tx x y (jK E x) (jK E y); binOp .neq tx (jK E x) (jK E y)); pure (.value r) : Sem Next).run P W = _
 rw [i, j]
 have b := BZ 9999 h a W
 simp [eqGuard, binOp, Op.equal, show Op.maxDepth = 9999 + 1 from rfl, b]
theorem nX {x : Operand} {t : TypeId} {s : ByteArray} (a : P.underlying t = some .string) (b : jK E x = .string s) : lQ P E ⟨d, .call ⟨.builtin .len, #[x], #[t]⟩, ty, pos, af, g⟩ W (.int .i64 s.size) W := by
 show (do let d ← resolve (jK E) ⟨.builtin .len, #[x], #[t]⟩ ty; invoke d.target d.args : Sem Next).run P W = _
 simp [resolve, invoke, builtin, Builtin.len_, aY a, b, goInt]
theorem Du {x : Operand} {t e : TypeId} {A : Option Addr} {l c : Nat} (a : P.underlying t = some (.slice e)) (b : jK E x = .slice A l c) : lQ P E ⟨d, .call ⟨.builtin .len, #[x], #[t]⟩, ty, pos, af, g⟩ W (.int .i64 l) W := by
 show (do let d ← resolve (jK E) ⟨.builtin .len, #[x], #[t]⟩ ty; invoke d.target d.args : Sem Next).run P W = _
 simp [resolve, invoke, builtin, Builtin.len_, aY a, b, goInt]
theorem kU {α : Type} {R : qe α} {k : Nat} {m : km} {x : Operand} {t e : TypeId} {v : Value} {l : List α} (b : P.underlying t = some (.slice e)) (h : jK E x = v) (a : Sl R k m v l) : lQ P E ⟨d, .call ⟨.builtin .len, #[x], #[t]⟩, ty, pos, af, g⟩ W (.int .i64 l.length) W := by
 obtain ⟨A, c, rfl, _⟩ := a
 exact Du b h
theorem A4 {t : TypeId} {x a : Operand} {m : IntKind} {s : ByteArray} {i : Int} {c : UInt8} (k : P.underlying t = some .string) (l : jK E x = .string s) (h : jK E a = .int m i) (b : 0 ≤ i) (j : s[i.toNat]? = some c) :
  lQ P E ⟨d, .index t x a, ty, pos, af, g⟩ W (.int .u8 c.toNat) W := by
 show (do pure (.value (← Instr.index t (jK E x) (jK E a))) : Sem Next).run P W = _
 rw [l, h]
 simp [Instr.index, asIntOf, aY k, b, j]
def li (P : Program) (t : TypeId) (f off : Nat) : Prop := ∀ b o w, (Instr.fieldAt t (.pointer (some ⟨b, o, none⟩)) f).run P w = .ok (.pointer (some ⟨b, o + off, none⟩)) w
theorem jG {t : TypeId} {x : Operand} {f off b o : Nat} (a : li P t f off) (h : jK E x = .pointer (some ⟨b, o, none⟩)) : lQ P E ⟨d, .fieldAddr t x f, ty, pos, af, g⟩ W (.pointer (some ⟨b, o + off, none⟩)) W := by
 show (do pure (.value (← Instr.fieldAt t (jK E x) f)) : Sem Next).run P W = _
 rw [h]; simp [a b o W]
theorem Cl {t : TypeId} {x : Operand} {f off : Nat} {v : Value} {ys : List Value} (zs : List Value) (k : li P t f off) (n : jK E x = v) (m : At μ v ys) (p : (ys.drop off).take zs.length = zs) :
  ∃ h, At μ h zs ∧ ∀ W, lQ P E ⟨d, .fieldAddr t x f, ty, pos, af, g⟩ W h W := by
 obtain ⟨b, o, cs, T, fr, rfl, h1, i⟩ := m
 refine ⟨_, ⟨b, o + off, cs, T, fr, rfl, h1, fun j y a => ?_⟩, fun W => jG k n⟩
 have l : j < zs.length := (bF.1 a).1
 have := i (off + j) y (by
  rw [← p, dB l, dS] at a
  exact a)
 rw [ev]
 exact this
theorem mN {x : Operand} {a : Addr} (b : jK E x = .pointer (some a)) : lQ P E ⟨d, .nilCheck x, ty, pos, af, g⟩ W (.pointer (some a)) W := by
 unfold lQ execOp
 simp [b]
theorem Mq {α : Type} {R : qe α} {k : Nat} {t e : TypeId} {x h : Operand} {ik : IntKind} {v : Value} {i : Int} {l : List α} {x0 : α} (U : P.underlying t = some (.slice e)) (he : ∀ w, (sizeOf e).run P w = .ok k w) (Y : jK E x = v) (M : jK E h = .int ik i) (Q : Sl R k μ v l) (n : 0 ≤ i) (m : l[i.toNat]? = some x0) :
  ∃ p ys, ys.length = k ∧ R μ ys x0 ∧ At μ p ys ∧ ∀ W, lQ P E ⟨d, .indexAddr t x h, ty, pos, af, g⟩ W p W := by
 obtain ⟨A, c, rfl, h2, h3, u⟩ := Q
 have O : i.toNat < l.length := (bF.1 m).1
 obtain ⟨b, off, cs, T, fr, rfl, z, G⟩ := u (by omega)
 obtain ⟨ys, I, J, a⟩ := G i.toNat x0 m
 refine ⟨.pointer (some ⟨b, off + i.toNat * k, none⟩), ys, I, J, ⟨b, off + i.toNat * k, cs, T, fr, rfl, z, fun j y Z => a j y Z⟩, fun W => ?_⟩
 show (do pure (.value (← Instr.indexAt t (jK E x) (jK E h))) : Sem Next).run P W = _
 rw [Y, M]
 have L : 0 ≤ i ∧ i < (l.length : Int) := ⟨n, by omega⟩
 simp [Instr.indexAt, asIntOf, aY U, he W, L, dz]
theorem na {α : Type} {enc : α → List Value} {k : Nat} {t e : TypeId} {x a : Operand} {G : IntKind} {v : Value} {i : Int} {l : List α} {x0 : α} (z : P.underlying t = some (.slice e)) (he : ∀ w, (sizeOf e).run P w = .ok k w) (A : jK E x = v) (n : jK E a = .int G i) (y : Sl (Pl enc) k μ v l) (b : 0 ≤ i) (u : l[i.toNat]? = some x0) :
  ∃ p, At μ p (enc x0) ∧ ∀ W, lQ P E ⟨d, .indexAddr t x a, ty, pos, af, g⟩ W p W := by
 obtain ⟨p, ys, h1, h, j, m⟩ := Mq (d := d) (ty := ty) (pos := pos) (af := af) (g := g) z he A n y b u
 cases h
 exact ⟨p, j, m⟩
theorem Jv (P : Program) {W : World} {b off : Nat} {cs : Array Value} {T : TypeId} {fr : Nat × Nat} (a : W.heap[b]? = some (.cells cs T fr)) (ys : List Value) (g : ∀ j y, ys[j]? = some y → cs[off + j]? = some y) :
  (loadCells ⟨b, off, none⟩ ys.length).run P W = .ok ys.toArray W :=
 ic W ⟨b, off, none⟩ ys (fun j v d => by rw [dz, fi W b (off + j) cs T fr a]; exact g j v d)
theorem CN {W : World} {t : TypeId} {b off : Nat} {cs : Array Value} {T : TypeId} {fr : Nat × Nat} (a : ∀ w, (isAgg t).run P w = .ok true w) (ys : List Value) (d : ∀ w, (sizeOf t).run P w = .ok ys.length w) (g : W.heap[b]? = some (.cells cs T fr)) (h : ∀ j y, ys[j]? = some y → cs[off + j]? = some y) : (Instr.loadAt t (.pointer (some ⟨b, off, none⟩))).run P W = .ok (.agg ys.toArray) W := by
 simp [Instr.loadAt, Instr.sureAddr, loadVar, a W, d W, Jv P g ys h]
theorem CC {W : World} {t : TypeId} {b off : Nat} {cs : Array Value} {T : TypeId} {fr : Nat × Nat} (a : ∀ w, (isAgg t).run P w = .ok false w) {y : Value} (d : W.heap[b]? = some (.cells cs T fr)) (h : cs[off]? = some y) : (Instr.loadAt t (.pointer (some ⟨b, off, none⟩))).run P W = .ok y W := by
 have g : W.cell? ⟨b, off, none⟩ = some y := by rw [fi W b off cs T fr d]; exact h
 simp [Instr.loadAt, Instr.sureAddr, loadVar, a W, load, Sem.run, g]
theorem jA {t : TypeId} {x : Operand} {a v : Value} (h : jK E x = a) (b : (Instr.loadAt t a).run P W = .ok v W) : lQ P E ⟨d, .load t x, ty, pos, af, g⟩ W v W := by
 show (do pure (.value (← Instr.loadAt t (jK E x))) : Sem Next).run P W = _
 rw [h]; simp [b]
def nC (μ : km) (A : List (Nat × Obj)) (W : World) : Prop := (∀ b o, μ b = some o → W.heap[b]? = some o) ∧ ∀ b o, (b, o) ∈ A → W.heap[b]? = some o
theorem ST.has (h : ST dd F w W μ L) : nC μ L W := ⟨h.mem, fun b o a => (h.box b o a).1⟩
theorem nC.sub {μ' : km} {A A' : List (Nat × Obj)} (h : nC μ A W) (g : kj μ' μ) (d : ∀ p, p ∈ A' → p ∈ A) : nC μ' A' W := ⟨fun b o a => h.1 b o (g b o a), fun b o a => h.2 b o (d _ a)⟩
theorem kf {A : List (Nat × Obj)} (hH : nC μ A W) {t : TypeId} {p : Value} {ys : List Value} (hp : At μ p ys) (d : ∀ w, (isAgg t).run P w = .ok true w) (g : ∀ w, (sizeOf t).run P w = .ok ys.length w) :
  (Instr.loadAt t p).run P W = .ok (.agg ys.toArray) W := by
 obtain ⟨b, off, cs, T, fr, rfl, h1, a⟩ := hp
 exact CN d ys g (hH.1 _ _ h1) a
theorem pA {A : List (Nat × Obj)} (hH : nC μ A W) {t : TypeId} {p y : Value} (hp : At μ p [y]) (d : ∀ w, (isAgg t).run P w = .ok false w) :
  (Instr.loadAt t p).run P W = .ok y W := by
 obtain ⟨b, off, cs, T, fr, rfl, h1, a⟩ := hp
 exact CC d (hH.1 _ _ h1) (a 0 y rfl)
theorem jD {A : List (Nat × Obj)} (hH : nC μ A W) {t : TypeId} {b off : Nat} {cs : Array Value} {T : TypeId} {fr : Nat × Nat} (h : (b, Obj.cells cs T fr) ∈ A) (ys : List Value) (k : (cs.toList.drop off).take ys.length = ys) (g : ∀ w, (isAgg t).run P w = .ok true w) (i : ∀ w, (sizeOf t).run P w = .ok ys.length w) : (Instr.loadAt t (.pointer (some ⟨b, off, none⟩))).run P W = .ok (.agg ys.toArray) W :=
 CN g ys i (hH.2 _ _ h) (fun j y a => by
  have d : j < ys.length := (bF.1 a).1
  rw [← k, dB d, dS] at a
  simpa using a)
theorem jP {A : List (Nat × Obj)} (hH : nC μ A W) {t : TypeId} {b off : Nat} {cs : Array Value} {T : TypeId} {fr : Nat × Nat} (d : (b, Obj.cells cs T fr) ∈ A) {y : Value} (g : cs[off]? = some y) (a : ∀ w, (isAgg t).run P w = .ok false w) : (Instr.loadAt t (.pointer (some ⟨b, off, none⟩))).run P W = .ok y W :=
 CC a (hH.2 _ _ d) g
theorem lC {t : TypeId} {a : Array (Nat × Operand)} {b : Array (Nat × Value)} {v : Value} (h : a.map (fun (i, x) => (i, jK E x)) = b) (j : ∀ W, (Instr.build t b).run P W = .ok v W) : lQ P E ⟨d, .build t a, ty, pos, af, g⟩ W v W := by
 show (do pure (.value (← Instr.build t (a.map fun (i, x) => (i, jK E x)))) : Sem Next).run P W = _
 rw [h]; simp [j W]
theorem kW {t : TypeId} {z cs : Array Value} {fs : Array Field} {a : Array (Nat × Value)} {pl : Array (Nat × Nat)} (g : ∀ w, (zeroValue t).run P w = .ok (.agg z) w) (d : P.underlying t = some (.struct fs)) (hp : ∀ w, (fs.mapM fun f => do pure (f.offset, ← sizeOf f.type) : Sem (Array (Nat × Nat))).run P w = .ok pl w) (b : Instr.fill (pl[·]?) z a.toList = some cs) (W : World) : (Instr.build t a).run P W = .ok (.agg cs) W := by
 simp only [Instr.build, bZ, g W, bK, aY d, Value.cells]
 rw [hp W]
 simp only [bK, b, cW]
end
theorem Fz {α : Type} : ∀ (a : Ask α) (w : World), w.drawn ≤ (w.ask a).2.drawn
 | .done a, w => by simp [World.ask]
 | .ask b range k, w => by
  unfold World.ask
  dsimp only
  split
  ·exact Fz (k 0) w
  ·refine dq (iC w.drawn) ?_
   exact Fz _ { w with drawn := w.drawn + 1 }
theorem Om (w : World) (c : Sys) : w.drawn ≤ (w.sys c).2.drawn := by
 have h := Fz (Kernel.perform c w.os) w
 unfold World.sys
 generalize w.ask (Kernel.perform c w.os) = r at *
 obtain ⟨⟨a, b⟩, d⟩ := r
 cases a <;> simp at h ⊢ <;> exact h
theorem HF {p : Program} {w d : World} {a : Addr} {u : TypeId} {k : Addr} {v : Value} {b : Bool} {l : List Addr} (h : w.viewStore p a u k v b = .ok (d, l)) : d.drawn = w.drawn := by
 unfold World.viewStore at h
 simp only [bind, Except.bind, pure, Except.pure] at h
 split at h
 ·cases h
 ·split at h
  ·cases h
  ·split at h
   ·split at h
    ·cases h
    ·split at h
     ·cases h
     ·cases h; rfl
   ·cases h
theorem IV {p : Program} {w d : World} {a : Addr} {v : Value} {b : Bool} {l : List Addr} (h : w.farStore p a v b = .ok (d, l)) : d.drawn = w.drawn := by
 unfold World.farStore at h
 split at h
 ·split at h
  ·rename_i h1; cases h; exact HF h1
  ·cases h
 ·cases h
theorem oG {α : Type} {p : Program} : ∀ (s : Sem α) (w d : World) (a : α), s.run p w = .ok a d → w.drawn ≤ d.drawn
 | .pure a, w, d, b, h => by simp only [Sem.run] at h; cases h; exact aX _
 | .load m a k, w, d, b, h => by
  simp only [Sem.run] at h
  split at h
  ·exact oG _ _ _ _ h
  ·split at h
   ·exact oG _ _ _ _ h
   ·cases h
 | .store m a v k, w, d, b, h => by
  have key : ∀ (r : Result α) i, r = .ok b d → (r = (match w.cell? a with
    | some _ => if w.frozen? a then .halt i w else k.run p (w.setCell a v)
    | none => match w.farStore p a v (m == .atomic) with
     | .ok (w, _) => k.run p w
     | .error h => .halt h w)) → w.drawn ≤ d.drawn := by
   intro r i j h
   rw [j] at h
   split at h
   ·split at h
    ·cases h
    ·have := oG k _ _ _ h.symm
     simpa [World.setCell] using this
   ·split at h
    ·rename_i h1
     have g := oG k _ _ _ h.symm
     rw [IV h1] at g
     exact g
    ·cases h
  cases v with
  | agg cs => simp only [Sem.run] at h; cases h
  | tuple cs => simp only [Sem.run] at h; cases h
  | _ => exact key _ _ h (by simp only [Sem.run]; rfl)
 | .new o k, w, d, b, h => by simp only [Sem.run] at h; have := oG (k _) _ _ _ h; exact this
 | .shape r k, w, d, b, h => by simp only [Sem.run] at h; exact oG _ _ _ _ h
 | .freeze a n k, w, d, b, h => by
  simp only [Sem.run] at h
  have := oG k _ _ _ h
  unfold World.freeze at this
  split at this <;> exact this
 | .frozen a k, w, d, b, h => by simp only [Sem.run] at h; exact oG _ _ _ _ h
 | .getObj r k, w, d, b, h => by
  simp only [Sem.run] at h
  split at h <;> try (cases h; done)
  exact oG _ _ _ _ h
 | .setObj r o k, w, d, b, h => by
  simp only [Sem.run] at h
  split at h <;> try (cases h; done)
  have := oG k _ _ _ h
  exact this
 | .choose q k, w, d, b, h => by
  simp only [Sem.run] at h
  split at h
  ·exact oG _ _ _ _ h
  ·exact dq (iC _) (oG _ _ _ _ h)
 | .sys c k, w, d, b, h => by
  simp only [Sem.run] at h
  exact dq (Om w c) (oG _ _ _ _ h)
 | .program k, w, d, b, h => by simp only [Sem.run] at h; exact oG _ _ _ _ h
 | .mark m k, w, d, b, h => by simp only [Sem.run] at h; exact oG k _ _ _ h
 | .halt x, w, d, b, h => by simp only [Sem.run] at h; cases h
end Go.Proofs.YtjjjihkifgdhgaaGreatDoor
namespace Go.Proofs.YtjjjihkifgdhgaaGreatDoor
open Go.RowKit
variable [M : Md]
variable {dd : Bool}
section
variable {P : Program} {n : Nat} {Q : qj} {E : Nat → Value} {W : World} {ops : Array Oper} {rest : List Oper}
 {d : Option Nat} {ty : TypeId} {pos : String} {af : Array Edge} {g : Option (Nat × Bool)}
 {F : Nat → Prop} {w : World} {μ : km} {L : List (Nat × Obj)}
def ng (P : Program) (E : Nat → Value) (o : Oper) (W : World) (K : Value → World → Prop) : Prop :=
 (∃ v W', (execOp (jK E) o).run P W = .ok (.value v) W' ∧ K v W') ∨ (∃ W', (execOp (jK E) o).run P W = .ok .skip W' ∧ K undef W') ∨
 (∃ f args, (execOp (jK E) o).run P W = .ok (.enter f args) W ∧ Calls P f args W fun e a => ∃ v, e = .returned v ∧ K v a)
theorem ng.mono {o : Oper} {K K' : Value → World → Prop} (h : ng P E o W K) (hk : ∀ v W', K v W' → K' v W') : ng P E o W K' := by
 rcases h with ⟨v, W', h1, a⟩ | ⟨W', h1, a⟩ | ⟨f, args, h1, a⟩
 ·exact .inl ⟨v, W', h1, hk _ _ a⟩
 ·exact .inr (.inl ⟨W', h1, hk _ _ a⟩)
 ·exact .inr (.inr ⟨f, args, h1, cV a (fun _ _ ⟨v, b, d⟩ => ⟨v, b, hk _ _ d⟩)⟩)
theorem Sc {o : Oper} {dd : Nat} (hw : sW n ops E o) (d : o.dst = some dd) (g : dd < n) (h : ng P E o W fun v W' => LW P n ops Q rest (nS E dd v) W') : LW P n ops Q (o :: rest) E W := by
 rcases h with ⟨v, W', h1, b⟩ | ⟨W', h1, b⟩ | ⟨f, args, h1, b⟩
 ·exact Ow hw d g h1 b
 ·intro a ha
  unfold wpListIn
  rw [bB (hw.of ha)]
  unfold Oper.wpIn
  refine ⟨fun _ _ => trivial, ?_⟩
  rw [ha.eval, zA h1 (by simp), Oper.uponIn_skip, d]
  exact b _ (ha.put g _)
 ·exact PY hw d g h1 b
theorem TR {o : Oper} (hw : sW n ops E o) (d : o.dst = none) (h : ng P E o W fun _ W' => LW P n ops Q rest E W') : LW P n ops Q (o :: rest) E W := by
 rcases h with ⟨v, W', h1, b⟩ | ⟨W', h1, b⟩ | ⟨f, args, h1, b⟩
 ·intro a ha
  unfold wpListIn
  rw [bB (hw.of ha)]
  unfold Oper.wpIn
  refine ⟨fun _ _ => trivial, ?_⟩
  rw [ha.eval, zA h1 (by simp), Oper.uponIn_value, d]
  exact b _ (ha.zM _)
 ·exact Pq hw d h1 b
 ·intro a ha
  unfold wpListIn
  rw [bB (hw.of ha)]
  unfold Oper.wpIn
  refine ⟨fun _ _ => trivial, ?_⟩
  rw [ha.eval, zA h1 (by simp), Oper.uponIn_enter]
  refine IQ (cV b ?_)
  rintro e i ⟨v, rfl, g⟩
  simp only [d]
  exact g _ (ha.zM _)
theorem kd {K : Value → World → Prop} {t : TypeId} {x : Operand} {v : Value} (a : ST dd F w W μ L) (i : jK E x = v) (h : ∀ W' b, ST dd F w W' μ ((b, .cells v.cells t (0, 0)) :: L) → K (.pointer (some ⟨b, 0, none⟩)) W') : ng P E ⟨d, .box t x, ty, pos, af, g⟩ W K :=
 .inl ⟨.pointer (some ⟨W.heap.size, 0, none⟩), W.alloc (.cells v.cells t (0, 0)), by
   show (do pure (.value (← Instr.box t (jK E x))) : Sem Next).run P W = _
   rw [i]
   simp [Instr.box, newVar, newRow, newObj, Sem.run], h _ _ (a.alloc _)⟩
theorem ku {K : Value → World → Prop} {t : TypeId} {z : Value} (a : ST dd F w W μ L) (i : ∀ w, (zeroValue t).run P w = .ok z w) (h : ∀ W' b, ST dd F w W' μ ((b, .cells z.cells t (0, 0)) :: L) → K (.pointer (some ⟨b, 0, none⟩)) W') : ng P E ⟨d, .alloc t, ty, pos, af, g⟩ W K :=
 .inl ⟨.pointer (some ⟨W.heap.size, 0, none⟩), W.alloc (.cells z.cells t (0, 0)), by
   show (do pure (.value (← Instr.alloc t true (.tuple #[]))) : Sem Next).run P W = _
   simp [Instr.alloc, i W, newVar, newRow, newObj, Sem.run], h _ _ (a.alloc _)⟩
theorem Is {t e : TypeId} {m k : Nat} {z : Value} {d : Array (Nat × Value)} {cs : Array Value} (h : P.underlying t = some (.slice e)) (g : ∀ w, (sizeOf e).run P w = .ok k w) (j : ∀ w, (zeroValue e).run P w = .ok z w) (hm : m * k ≤ 16777216) (a : Instr.fill (fun i => some (i * k, k)) ((Array.range (m * k)).map (fun i => (if m * k = 0 then (#[] : Array Value) else z.cells)[i % (if m * k = 0 then (#[] : Array Value) else z.cells).size]!)) d.toList = some cs) (W : World) :
  (Instr.buildSlice t m d).run P W = .ok (.slice (some ⟨W.heap.size, 0, none⟩) m m) (W.alloc (.cells cs e (0, 0))) := by
 simp only [Instr.buildSlice, bZ, aY h, bK, g W]
 rw [bE (by omega)]
 by_cases b : m * k = 0
 ·simp only [b, aU] at a ⊢
  simp only [bZ, cW, bK, a]
  simp [newRow, newObj, Sem.run]
 ·simp only [b, aK] at a ⊢
  simp only [bZ, j W, cW, bK, a]
  simp [newRow, newObj, Sem.run]
theorem kq {K : Value → World → Prop} {t e : TypeId} {m : Nat} {j : Array (Nat × Operand)} {k : Array (Nat × Value)} {cs : Array Value} (a : ST dd F w W μ L) (l : j.map (fun (i, x) => (i, jK E x)) = k) (n : ∀ W, (Instr.buildSlice t m k).run P W = .ok (.slice (some ⟨W.heap.size, 0, none⟩) m m) (W.alloc (.cells cs e (0, 0)))) (h : ∀ W' b, ST dd F w W' μ ((b, .cells cs e (0, 0)) :: L) → K (.slice (some ⟨b, 0, none⟩) m m) W') : ng P E ⟨d, .buildSlice t m j, ty, pos, af, g⟩ W K :=
 .inl ⟨.slice (some ⟨W.heap.size, 0, none⟩) m m, W.alloc (.cells cs e (0, 0)), by
   show (do pure (.value (← Instr.buildSlice t m (j.map fun (i, x) => (i, jK E x)))) : Sem Next).run P W = _
   rw [l]
   simp [n W], h _ _ (a.alloc _)⟩
theorem ST.store {A B : List (Nat × Obj)} {b : Nat} {cs : Array Value} {t : TypeId} (d : ST dd F w W μ (A ++ (b, .cells cs t (0, 0)) :: B)) (a : Array Value) :
  ST dd F w (W.setRow b a) μ (A ++ (b, .cells a t (0, 0)) :: B) := by
 have g := (d.box b _ (by simp : (b, Obj.cells cs t (0, 0)) ∈ A ++ (b, .cells cs t (0, 0)) :: B)).1
 refine d.put ⟨rfl, rfl, rfl, aX _, by simp [World.setRow]⟩ (fun k hk => ?_) (setRow_heap W b cs a t (0, 0) g)
 simp only [World.setRow, dM]
 rw [bE (fun e => hk e.symm)]
theorem CP (P : Program) {W : World} {t : TypeId} {b off : Nat} {cs : Array Value} {T : TypeId} (v : Value) (a : ∀ w, (sizeOf t).run P w = .ok v.cells.size w) (h1 : ∀ u ∈ v.cells.toList, u.oneCell' = true) (d : W.heap[b]? = some (.cells cs T (0, 0))) (g : off + v.cells.size ≤ cs.size) : (Instr.storeAt t (.pointer (some ⟨b, off, none⟩)) v).run P W = .ok () (W.setRow b (cs.toList.take off ++ v.cells.toList ++ cs.toList.drop (off + v.cells.size)).toArray) := by
 have := iD (P := P) b off T v.cells.toList 0 cs W d (by simpa using g) h1
 simp [Instr.storeAt, Instr.sureAddr, storeVar, a W]
 simpa using this
theorem Rc {K : Value → World → Prop} (A : List (Nat × Obj)) {B : List (Nat × Obj)} {t : TypeId} {x y : Operand} (v : Value) {b off : Nat} {cs : Array Value} {T : TypeId} (a : Array Value) (i : ST dd F w W μ (A ++ (b, .cells cs T (0, 0)) :: B)) (n : jK E x = .pointer (some ⟨b, off, none⟩)) (p : jK E y = v) (j : ∀ w, (sizeOf t).run P w = .ok v.cells.size w) (h1 : ∀ u ∈ v.cells.toList, u.oneCell' = true) (m : off + v.cells.size ≤ cs.size) (l : (cs.toList.take off ++ v.cells.toList ++ cs.toList.drop (off + v.cells.size)).toArray = a) (h : ∀ W', ST dd F w W' μ (A ++ (b, .cells a T (0, 0)) :: B) → K undef W') : ng P E ⟨d, .store t x y, ty, pos, af, g⟩ W K :=
 .inr (.inl ⟨W.setRow b a, by
   show (do Instr.storeAt t (jK E x) (jK E y); pure .skip : Sem Next).run P W = _
   have k := (i.box b _ (by simp : (b, Obj.cells cs T (0, 0)) ∈ A ++ (b, .cells cs T (0, 0)) :: B)).1
   rw [n, p]
   simp only [bZ, CP P v j h1 k m, l, bK, cW], h _ (i.store a)⟩)
def jV (dd : Bool) (P : Program) (f : FuncId) (args : List Value) (w : World) (v : Value) : Prop := Calls P f args.toArray w fun e a => e = .returned v ∧ Ex dd w a
theorem Oq {f : FuncId} {fv : Operand} {ax : Array Operand} {ats : Array TypeId} {caps args : Array Value} (a : jK E fv = .func (.func f) #[] caps) (he : ∀ args w, (callFunc f args).run P w = .ok (.enter f args) w) (ha : ax.map (jK E) ++ caps = args) :
  (execOp (jK E) ⟨d, .call ⟨.value fv, ax, ats⟩, ty, pos, af, g⟩).run P W = .ok (.enter f args) W := by
 show (do let d ← resolve (jK E) ⟨.value fv, ax, ats⟩ ty; invoke d.target d.args : Sem Next).run P W = _
 rw [← ha]
 simp only [resolve, a, Deferred.ofValue, bZ, cW, bK, invoke]
 simp [he]
theorem CX {K : Value → World → Prop} {f : FuncId} {fv : Operand} {ax : Array Operand} {ats : Array TypeId} {caps args : Array Value} (a : jK E fv = .func (.func f) #[] caps) (he : ∀ args w, (callFunc f args).run P w = .ok (.enter f args) w) (ha : ax.map (jK E) ++ caps = args) (h : Calls P f args W fun e b => ∃ v, e = .returned v ∧ K v b) : ng P E ⟨d, .call ⟨.value fv, ax, ats⟩, ty, pos, af, g⟩ W K :=
 .inr (.inr ⟨f, args, Oq a he ha, h⟩)
theorem FQ {K : Value → World → Prop} {f : FuncId} {fv : Operand} {ax : Array Operand} {ats : Array TypeId} {args : List Value} {v : Value} (a : ST dd F w W μ L) (j : jK E fv = .func (.func f) #[] #[]) (he : ∀ args w, (callFunc f args).run P w = .ok (.enter f args) w) (ha : (ax.map (jK E) ++ (#[] : Array Value)) = args.toArray) (i : jV dd P f args W v) (h : ∀ W', ST dd F w W' μ L → K v W') : ng P E ⟨d, .call ⟨.value fv, ax, ats⟩, ty, pos, af, g⟩ W K :=
 CX j he ha (cV i (fun _ _ ⟨h1, b⟩ => ⟨v, h1, h _ (a.HC b)⟩))
def jZ {α : Type} (e : TypeId) (enc : α → List Value) (k : Nat) (v : Value) (l : List α) (R : List (Nat × Obj)) : Prop :=
 (v = .slice none 0 0 ∧ l = [] ∧ R = []) ∨
 ∃ g cap a, v = .slice (some ⟨g, 0, none⟩) l.length cap ∧ R = [(g, .cells a e (0, 0))] ∧ l.length ≤ cap ∧ cap ≤ maxLen ∧ a.size = cap * k ∧ a.toList.take (l.length * k) = (l.map enc).flatten
theorem pd {α : Type} {enc : α → List Value} {k : Nat} (hk : ∀ x, (enc x).length = k) : ∀ l : List α, (l.map enc).flatten.length = l.length * k
 | [] => by simp
 | x :: l => by simp [pd hk l, hk x, cR, Nat.add_comm]
theorem wX {α : Type} {enc : α → List Value} {k : Nat} (hk : ∀ x, (enc x).length = k) : ∀ (l : List α) (i : Nat) (x : α), l[i]? = some x → ∀ j y, (enc x)[j]? = some y → (l.map enc).flatten[i * k + j]? = some y
 | [], i, x, h => by cases h
 | z :: l, 0, x, h => by
  simp at h; subst h
  intro j y a
  have b : j < (enc z).length := (bF.1 a).1
  simp [fE, b]
  rw [cX b] at a
  simpa using a
 | z :: l, i + 1, x, h => by
  intro j y a
  have := wX hk l i x (by simpa using h) j y a
  simp only [bL, bN]
  rw [eK (by rw [hk z]; have := Nat.le_mul_of_pos_left k (Nat.succ_pos i); simp [cR] at *; omega), hk z]
  rw [show (i + 1) * k + j - k = i * k + j by rw [cR]; omega]
  exact this
theorem Hb {α : Type} {enc : α → List Value} {k : Nat} (hk : ∀ x, (enc x).length = k) : ∀ (l : List α) (q : Nat) (y : Value), (l.map enc).flatten[q]? = some y → ∃ i x j, l[i]? = some x ∧ (enc x)[j]? = some y ∧ q = i * k + j
 | [], q, y, h => by simp at h
 | z :: l, q, y, h => by
  simp only [bL, bN] at h
  by_cases b : q < k
  ·rw [fM (by rw [hk]; exact b)] at h
   exact ⟨0, z, q, rfl, h, by simp⟩
  ·rw [eK (by rw [hk]; omega), hk] at h
   obtain ⟨i, x, j, h1, a, d⟩ := Hb hk l (q - k) y h
   exact ⟨i + 1, x, j, by simpa using h1, a, by rw [cR]; omega⟩
theorem jZ.nil {α : Type} (e : TypeId) (enc : α → List Value) (k : Nat) : jZ e enc k (.slice none 0 0) [] [] := .inl ⟨rfl, rfl, rfl⟩
theorem jZ.sl {α : Type} {e : TypeId} {enc : α → List Value} {k : Nat} {v : Value} {l : List α} {R : List (Nat × Obj)} {m : km} (h : jZ e enc k v l R) (hk : ∀ x, (enc x).length = k) (hm : ∀ b o, (b, o) ∈ R → m b = some o) : Sl (Pl enc) k m v l := by
 rcases h with ⟨rfl, rfl, rfl⟩ | ⟨g, cap, a, rfl, rfl, h1, n, w, p⟩
 ·exact Sl.nil _ _ _
 ·refine ⟨_, cap, rfl, h1, n, fun _ => ⟨g, 0, a, e, (0, 0), rfl, hm _ _ (by simp), fun i x t => ⟨enc x, hk x, rfl, fun j y u => ?_⟩⟩⟩
  have := wX hk l i x t j y u
  rw [← p] at this
  have d : i * k + j < l.length * k := by
   have := (bF.1 this).1
   simp at this; omega
  rw [dB d] at this
  simpa using this
theorem jZ.len {α : Type} {e : TypeId} {enc : α → List Value} {k : Nat} {v : Value} {l : List α} {R : List (Nat × Obj)} (h : jZ e enc k v l R) : l.length ≤ 9223372036854775807 := by
 rcases h with ⟨rfl, rfl, rfl⟩ | ⟨g, cap, a, rfl, rfl, h1, b, d, i⟩
 ·simp
 ·unfold maxLen at b; omega
theorem jZ.fr {α : Type} {e : TypeId} {enc : α → List Value} {k : Nat} {v : Value} {l : List α} {R X Y : List (Nat × Obj)} (h : jZ e enc k v l R) (a : ST dd kx w W μ (X ++ (R ++ Y))) : Fr w.heap.size v := by
 rcases h with ⟨rfl, rfl, rfl⟩ | ⟨g, cap, i, rfl, rfl, h1, j, m, n⟩
 ·exact Fr.nil _
 ·intro b d
  simp [Value.ownBlock] at d
  subst d
  rcases (a.box g _ (by simp; exact .inr (.inl rfl))).2.2 with h | h
  ·exact h
  ·exact h.elim
theorem jZ.lit {α : Type} {e : TypeId} {enc : α → List Value} {k b m : Nat} {l : List α} {cs : Array Value} (hm : l.length = m) (d : m ≤ maxLen) (g : cs.toList = (l.map enc).flatten) (a : cs.size = m * k) : jZ e enc k (.slice (some ⟨b, 0, none⟩) m m) l [(b, .cells cs e (0, 0))] := by
 subst hm
 refine .inr ⟨b, _, cs, rfl, rfl, aX _, d, a, ?_⟩
 rw [← g, ← a]
 exact dI (by rw [dv]; exact aX _)
def mE {α : Type} (a : Nat) (l m : List α) : Option (List α) := if (l.length + m.length) * a ≤ 140737488355328 ∧ l.length + m.length ≤ maxLen then some (l ++ m) else none
theorem Kd {K : Value → World → Prop} {α : Type} {e t : TypeId} {enc : α → List Value} {k ae : Nat} {z v vs : Value} {l m r : List α} {R : List (Nat × Obj)} (X : List (Nat × Obj)) {Y : List (Nat × Obj)} {x y : Operand} {i : TypeInfo} (p : ST dd F w W μ (X ++ (R ++ Y))) (hk : ∀ x, (enc x).length = k) (b3 : 0 < k) (h1 : ∀ x, ∀ u ∈ enc x, u.oneCell' = true) (ht : P.underlying t = some (.slice e)) (hi : P.info? e = some i) (hz : i.zero = some z) (b7 : z.cells.size = k) (b4 : i.size = k) (b1 : i.bytes = ae) (hx : jK E x = v) (hy : jK E y = vs) (hR : jZ e enc k v l R) (hs : Sl (Pl enc) k (hp W) vs m) (n : mE ae l m = some r) (h : ∀ W' v' R', ST dd F w W' μ (X ++ (R' ++ Y)) → jZ e enc k v' r R' → K v' W') : ng P E ⟨d, .call ⟨.builtin .append, #[x, y], #[t, t]⟩, ty, pos, af, g⟩ W K := by
 unfold mE at n
 split at n
 case isFalse => cases n
 rename_i ak
 cases n
 have ab : ∀ (V : Value) (W' : World), (Builtin.append_ #[t, t] ty #[v, vs]).run P W = .ok V W' → (execOp (jK E) ⟨d, .call ⟨.builtin .append, #[x, y], #[t, t]⟩, ty, pos, af, g⟩).run P W = .ok (.value V) W' := by
  intro V W' hV
  show (do let d ← resolve (jK E) ⟨.builtin .append, #[x, y], #[t, t]⟩ ty; invoke d.target d.args : Sem Next).run P W = _
  simp [resolve, invoke, builtin, hx, hy, hV]
 obtain ⟨A, c, rfl, bc, bd, b2⟩ := hs
 have aa : W.ownsRow 0 e k v l.length (l.map enc).flatten := by
  refine ⟨pd hk l, ?_⟩
  rcases hR with ⟨rfl, rfl, rfl⟩ | ⟨g, cap, L, rfl, rfl, h1, h2, h3, h4⟩
  ·exact .inl ⟨rfl, rfl⟩
  ·exact .inr ⟨g, cap, L, rfl, ez _, (p.box g _ (by simp)).1, h1, h2, h3, h4⟩
 have av : m.length = 0 ∨ ∃ ad, A = some ad ∧ ∀ j u, (m.map enc).flatten[j]? = some u → W.cell? (ad.add j) = some u := by
  rcases dZ m.length with Q | Q
  ·exact .inl Q
  ·obtain ⟨b, off, cs, T, fr, rfl, h6, h7⟩ := b2 Q
   refine .inr ⟨⟨b, off, none⟩, rfl, fun j u hu => ?_⟩
   obtain ⟨i, x, q, h8, h9, rfl⟩ := Hb hk m j u hu
   obtain ⟨ys, _, ay, az⟩ := h7 i x h8
   cases ay
   rw [dz, fi W b (off + (i * k + q)) cs T fr h6, ← ev]
   exact az q u h9
 have au : ∀ u ∈ (m.map enc).flatten, u.oneCell' = true := by
  intro u hu
  obtain ⟨ys, b6, b5⟩ := iS.1 hu
  obtain ⟨x, _, rfl⟩ := bJ.1 b6
  exact h1 x u b5
 by_cases ap : m.length = 0
 ·have hm : m = [] := aV ap
  subst hm
  have hr : (Builtin.append_ #[t, t] ty #[v, .slice A 0 c]).run P W = .ok v W := by
   rcases aa.2 with ⟨rfl, Q⟩ | ⟨g, cap, L, rfl, _, hg, aq, _, bf, _⟩
   ·cases A with
    | none => simp [Builtin.append_, aY ht, sizeOf, typeInfo, hi, Builtin.lenOf, Builtin.firstCells]
    | some ad => simp [Builtin.append_, aY ht, sizeOf, typeInfo, hi, Builtin.lenOf, Builtin.firstCells, loadCells, loadCellsFrom]
   ·cases A with
    | none => simp [Builtin.append_, aY ht, sizeOf, typeInfo, hi, Builtin.lenOf, Builtin.firstCells, aq, storeCells]
    | some ad => simp [Builtin.append_, aY ht, sizeOf, typeInfo, hi, Builtin.lenOf, Builtin.firstCells, loadCells, loadCellsFrom, aq, storeCells]
  exact .inl ⟨v, W, ab _ _ (by simpa using hr), by simpa using h W v R p (by simpa using hR)⟩
 rcases av with Q | ⟨ad, rfl, a6⟩
 ·exact absurd Q ap
 obtain ⟨v', W', hr, ai, G, ba, O⟩ := run_append_own_at (P := P) W 0 t ty e i z k ae ht hi hz b4 b1 b7 b3 v l.length (l.map enc).flatten aa ad m.length c (m.map enc).flatten (pd hk m) a6 au ak.2 ak.1 (ez _)
 have ag := oG _ _ _ _ hr
 refine .inl ⟨v', W', ab _ _ hr, ?_⟩
 have hlen : (l ++ m).length = l.length + m.length := by simp
 rcases ai.2 with ⟨_, Q⟩ | ⟨Z, a7, a8, rfl, _, ah, b9, al, an, aw⟩
 ·omega
 have aj : jZ e enc k (.slice (some ⟨Z, 0, none⟩) (l.length + m.length) a7) (l ++ m) [(Z, .cells a8 e (0, 0))] :=
  .inr ⟨Z, a7, a8, by rw [hlen], rfl, by omega, al, an, by rw [hlen, aw]; simp⟩
 refine h W' _ _ ?_ aj
 have ar := p.nd
 rcases hR with ⟨rfl, rfl, rfl⟩ | ⟨g, cap, L, rfl, rfl, q1, q2, q3, q4⟩
 ·-- nil: a new block
  have a1 : W.heap.size ≤ Z := by
   rcases O with h | h <;> simp [Value.ownBlock] at h
   omega
  have hex : Ex dd W W' := ⟨G.os, G.tape, G.output, tH.of ag, G.size, fun b n => G.block b n (by simp [Value.ownBlock])⟩
  have h1 := p.HC hex
  refine ⟨h1.os, h1.tape, h1.output, h1.drawn, h1.size, h1.lZ, h1.mem, fun b o n => ?_, ?_⟩
  ·simp only [aW, bP] at n
   rcases n with n | n | n
   ·exact h1.box b o (by simp [n])
   ·cases n
    refine ⟨ah, ?_, .inl (dq p.size a1)⟩
    cases hm : μ Z with
    | none => rfl
    | some x => have := p.FN hm; omega
   ·exact h1.box b o (by simp [n])
  ·simp only [bH, cE, bL, gC] at ar ⊢
   refine (gQ eY).2 (dE.2 ⟨fun hm => ?_, ar⟩)
   rw [← cE] at hm
   obtain ⟨⟨b, o⟩, n, M⟩ := bJ.1 hm
   have b0 : (b, o) ∈ X ++ ([] ++ Y) := by simpa using n
   have := p.Hp b0
   simp at M
   omega
 ·by_cases ao : Z = g
  ·subst ao
   have Q : ST dd F w W μ (X ++ (Z, Obj.cells L e (0, 0)) :: Y) := by simpa using p
   have hold : ∀ b, b < W.heap.size → b ≠ Z → W'.heap[b]? = W.heap[b]? := fun b n J => G.block b n (by simp [Value.ownBlock]; exact J)
   have I := Q.nd
   simp only [cE, bL] at I
   have J : ∀ b o, (b, o) ∈ X ++ Y → b ≠ Z := fun b o n M => by
    subst M
    rcases aW.1 n with n | n
    ·exact (bX.1 I).2.2 b (bJ.2 ⟨_, n, rfl⟩) b (by simp) rfl
    ·exact (dE.1 (bX.1 I).2.1).1 (bJ.2 ⟨_, n, rfl⟩)
   have U := Q.box Z (Obj.cells L e (0, 0)) (by simp)
   refine ⟨G.os.trans p.os, G.tape.trans p.tape, G.output.trans p.output, tH.trans p.drawn (tH.of ag), dq p.size G.size, fun b n hF => ?_, fun b o n => ?_, fun b o n => ?_, by simpa using I⟩
   ·rw [hold b (dY n p.size) (fun M => by subst M; rcases U.2.2 with h | h; omega; exact hF h)]
    exact p.lZ b n hF
   ·rw [hold b (p.FN n) (fun M => by subst M; rw [U.2.1] at n; cases n)]
    exact p.mem b o n
   ·simp only [aW, bP] at n
    rcases n with n | n | n
    ·obtain ⟨r1, r2⟩ := p.box b o (by simp [n])
     exact ⟨by rw [hold b (nV r1) (J b o (by simp [n]))]; exact r1, r2⟩
    ·cases n; exact ⟨ah, U.2⟩
    ·obtain ⟨r1, r2⟩ := p.box b o (by simp [n])
     exact ⟨by rw [hold b (nV r1) (J b o (by simp [n]))]; exact r1, r2⟩
  ·have a1 : W.heap.size ≤ Z := by
    rcases O with h | h <;> simp [Value.ownBlock] at h
    ·exact absurd h ao
    ·omega
   have Q : ST dd F w W μ (X ++ (g, Obj.cells L e (0, 0)) :: Y) := by simpa using p
   have U := Q.box g (Obj.cells L e (0, 0)) (by simp)
   have I := Q.nd
   simp only [cE, bL] at I
   have J : ∀ b o, (b, o) ∈ X ++ Y → b ≠ g := fun b o n M => by
    subst M
    rcases aW.1 n with n | n
    ·exact (bX.1 I).2.2 b (bJ.2 ⟨_, n, rfl⟩) b (by simp) rfl
    ·exact (dE.1 (bX.1 I).2.1).1 (bJ.2 ⟨_, n, rfl⟩)
   have hold : ∀ b, b < W.heap.size → b ≠ g → W'.heap[b]? = W.heap[b]? := fun b n J => G.block b n (by simp [Value.ownBlock]; exact J)
   refine ⟨G.os.trans p.os, G.tape.trans p.tape, G.output.trans p.output, tH.trans p.drawn (tH.of ag), dq p.size G.size, fun b n hF => ?_, fun b o n => ?_, fun b o n => ?_, ?_⟩
   ·rw [hold b (dY n p.size) (fun M => by subst M; rcases U.2.2 with h | h; omega; exact hF h)]
    exact p.lZ b n hF
   ·rw [hold b (p.FN n) (fun M => by subst M; rw [U.2.1] at n; cases n)]
    exact p.mem b o n
   ·simp only [aW, bP] at n
    rcases n with n | n | n
    ·obtain ⟨r1, r2⟩ := p.box b o (by simp [n])
     exact ⟨by rw [hold b (nV r1) (J b o (by simp [n]))]; exact r1, r2⟩
    ·cases n
     refine ⟨ah, ?_, .inl (dq p.size a1)⟩
     cases hm : μ Z with
     | none => rfl
     | some x => have := p.FN hm; omega
    ·obtain ⟨r1, r2⟩ := p.box b o (by simp [n])
     exact ⟨by rw [hold b (nV r1) (J b o (by simp [n]))]; exact r1, r2⟩
   ·have aE : (X.map (·.1) ++ Y.map (·.1)).Nodup := (dE.1 ((gQ eY).1 I)).2
    simp only [cE, bL, gC]
    refine (gQ eY).2 (dE.2 ⟨fun hm => ?_, aE⟩)
    rw [← cE] at hm
    obtain ⟨⟨b, o⟩, n, M⟩ := bJ.1 hm
    have := p.Hp (b := b) (o := o) (by rcases aW.1 n with h | h <;> simp [h])
    simp at M
    omega
end
end Go.Proofs.YtjjjihkifgdhgaaGreatDoor
namespace Go.Proofs.YtjjjihkifgdhgaaGreatDoor
open Go.RowKit
variable [M : Md]
def BR (l : List Value) : Nat → Value := fun t => l.getD t undef
def xH (P : Program) (fn : Func) (R : Ending → World → Prop) : qj
 | .normal, E, W | .ret, E, W => ∃ v, (∀ tmps : Array Value, (∀ t, tmps.getD t undef = E t) → (results fn tmps).run P W = .ok v W) ∧ R (.returned v) W
 | _, _, _ => False
theorem xW {P : Program} {f : FuncId} {fn : Func} {c : Code} {args : List Value} {w : World} {R : Ending → World → Prop} {n : Nat} (p : P.funcs[f]? = some fn) (m : fn.body = some c) (u : fn.ntmps = n) (ha : args.length ≤ n) (h : @CW Bm P n c (xH P fn R) (BR args) w) : Calls P f args.toArray w R := by
 refine calls_of_wp p m ?_
 have i : @Ag Bm n { tmps := args.toArray ++ Array.replicate (fn.ntmps - args.toArray.size) undef, defers := [] } (BR args) := by
  refine ⟨by simp; omega, rfl, fun t => ?_⟩
  simp only [BR, eC, List.getD_eq_getElem?_getD, Array.getElem?_append, Array.getElem?_replicate, dG, gD]
  by_cases k : t < args.length
  ·rw [bB k]
  ·rw [bE k, fz (by omega)]
   split <;> simp
 refine wp_mono ((wpIn_wide (n := 0)).1 (h _ i)) (fun e a x d => ?_)
 cases e with
 | normal =>
  obtain ⟨E, b, v, j, g⟩ := d
  exact ⟨b.2.1, v, j _ b.2.2, g⟩
 | ret =>
  obtain ⟨E, b, v, j, g⟩ := d
  exact ⟨b.2.1, v, j _ b.2.2, g⟩
 | exit id => obtain ⟨E, b, h⟩ := d; exact h.elim
 | goto l => obtain ⟨E, b, h⟩ := d; exact h.elim
 | panic c => exact d.2.elim
 | outgrown => exact d.elim
section
variable {P : Program} {fn : Func} {R : Ending → World → Prop} {E : Nat → Value} {W : World}
theorem lB {r : Tmp} {v : Value} (a : fn.results = #[.tmp r]) (d : E r = v) (h : R (.returned v) W) : xH P fn R .ret E W :=
 ⟨v, fun tmps b => by rw [results_tmp a, b, d], h⟩
theorem ER {r s : Tmp} {v u : Value} (b : fn.results = #[.tmp r, .tmp s]) (d : E r = v) (hu : E s = u) (h : R (.returned (.tuple #[v, u])) W) : xH P fn R .ret E W :=
 ⟨.tuple #[v, u], fun tmps a => by rw [results_tmp2 b, a, a, d, hu], h⟩
theorem nr (a : fn.results = #[]) (h : R (.returned (.tuple #[])) W) : xH P fn R .ret E W :=
 ⟨.tuple #[], fun tmps _ => by rw [results_none a], h⟩
theorem mL {r : Tmp} {t : TypeId} {a : Addr} {v : Value} (b : fn.results = #[.cell r t]) (i : E r = .pointer (some a)) (g : (Instr.loadAt t (.pointer (some a))).run P W = .ok v W) (h : R (.returned v) W) : xH P fn R .ret E W :=
 ⟨v, fun tmps d => by
  have h1 : (loadVar t a).run P W = .ok v W := by simpa [Instr.loadAt, Instr.sureAddr] using g
  simp [results, b, d, i, asAddr, h1], h⟩
theorem nQ (h : xH P fn R .ret E W) : xH P fn R .normal E W := h
end
section
variable {Q : qj} {E : Nat → Value} {W : World} {K : (Nat → Value) → World → Prop} {id j : Nat}
theorem kA (h : Q .normal E W) : wP id Q .normal E W := h
theorem mi (h : Q .ret E W) : wP id Q .ret E W := h
theorem oU (h : Q .normal E W) : wP id Q (.exit id) E W := by simp [wP]; exact h
theorem Tk (a : (j = id) = False) (h : Q (.exit j) E W) : wP id Q (.exit j) E W := by simp only [wP, a, aK]; exact h
theorem jI (h : K E W) : qz K Q .normal E W := h
theorem kw (h : Q .ret E W) : qz K Q .ret E W := h
theorem ml (h : Q (.exit j) E W) : qz K Q (.exit j) E W := h
end
theorem Ov {i N : Nat} (b : i < N) (a : N ≤ 9223372036854775807) : IntKind.i64.wrap ((i : Int) + 1) = ((i + 1 : Nat) : Int) := by
 rw [IntWalk.i64_in _ (by omega)]
 omega
theorem kC {P : Program} {n : Nat} {Q : qj} {E : Nat → Value} {W : World} {g w r2 r6 p t L y : Nat} {t1 t2 t3 t4 t5 t6 t7 : TypeId} {Z p2 p3 : String} {f1 f2 f3 : Array Edge} {body : Code} (I : Nat → (Nat → Value) → World → Prop) (N : Nat) (T : N ≤ 9223372036854775807) (M : I 0 E W) (U : p < n) (Y : y < n) (J : t < n) (R : ∀ i E W, I i E W → E t = .int .i64 (i : Nat) ∧ E L = .int .i64 (N : Nat)) (round : ∀ i E W, i < N → I i E W → CW P n (.block w body) (qz (fun E' W' => E' t = .int .i64 (i : Nat) ∧ I (i + 1) (nS (nS E' y (.int .i64 ((i + 1 : Nat) : Int))) t (.int .i64 ((i + 1 : Nat) : Int))) W') (wP g Q)) (nS E p (.bool true)) W) (done : ∀ E W, I N E W → Q .normal (nS E p (.bool false)) W) :
  CW P n (.block g (.loop (.seq (.region r2 #[⟨some p, .binOp .lss t1 (.tmp t) (.tmp L) t2, t3, Z, f1, none⟩] false)
   (.seq (.cond (.tmp p) .skip (.exit g)) (.seq (.block w body)
    (.region r6 #[⟨some y, .binOp .add t4 (.tmp t) (.const (.int .i64 1)) t5, t6, p2, f2, none⟩, ⟨some t, .move (.tmp y), t7, p3, f3, none⟩] false)))))) Q E W := by
 refine kZ (mG (fun m E W => ∃ i, i ≤ N ∧ m = N - i ∧ I i E W) N ⟨0, ez _, by omega, M⟩ ?_)
 rintro m E W ⟨i, hi, rfl, d⟩
 obtain ⟨z, A⟩ := R i E W d
 refine jM (jL (IN (.inl rfl) rfl U (kG z A rfl) (kk ?_)))
 refine jI (jM ?_)
 have x : nS E p (.bool (decide ((i : Int) < (N : Int)))) p = .bool (decide ((i : Int) < (N : Int))) := by simp [nS]
 by_cases u : i < N
 ·have G : decide ((i : Int) < (N : Int)) = true := by simp; omega
  rw [G] at x ⊢
  refine xg x (kX (jI (jM ?_)))
  refine IA (round i E W u d) (fun e E' W' h => ?_)
  cases e with
  | normal =>
   obtain ⟨h1, O⟩ := h
   refine jI ?_
   have hw : IntKind.i64.wrap ((i : Int) + 1) = ((i + 1 : Nat) : Int) := Ov u T
   refine jL (IN (v := .int .i64 ((i + 1 : Nat) : Int)) (.inl rfl) rfl Y (kG (k := .i64) (a := (i : Int)) (b := 1) h1 rfl (by simp only [JI, hw])) ?_)
   refine IN (v := .int .i64 ((i + 1 : Nat) : Int)) (.inl rfl) rfl J (jH (by simp [jK, nS])) (kk ?_)
   exact jI ⟨N - (i + 1), by omega, i + 1, by omega, rfl, O⟩
  | exit j => exact h
  | goto l => exact h
  | ret => exact h
  | panic c => exact h
  | outgrown => exact h
 ·have G : decide ((i : Int) < (N : Int)) = false := by simp; omega
  rw [G] at x ⊢
  obtain rfl : i = N := by omega
  refine qI x (mF (ml (ml (oU ?_))))
  exact done E W d
theorem OD {P : Program} {n : Nat} {x : Code} {Q : qj} {K : (Nat → Value) → World → Prop} {E : Nat → Value} {W : World} (J : (Nat → Value) → World → Prop) (h : CW P n x (qz J Q) E W) (k : ∀ E W, J E W → K E W) : CW P n x (qz K Q) E W :=
 IA h (fun e E W h => by cases e <;> first | exact k E W h | exact h)
theorem Sy {α : Type} {c : Bool} {x y r : α} (a : c = true) (h : (if c = true then x else y) = r) : x = r := by rw [bB a] at h; exact h
theorem SB {α : Type} {c : Bool} {x y r : α} (a : c = false) (h : (if c = true then x else y) = r) : y = r := by rw [bE (by rw [a]; decide)] at h; exact h
theorem bind_some {α β : Type} {o : Option α} {f : α → Option β} {r : β} (h : o.bind f = some r) : ∃ y, o = some y ∧ f y = some r := by
 cases o with
 | none => cases h
 | some y => exact ⟨y, rfl, h⟩
theorem NL (b : Bool) : b = true ∨ b = false := by cases b <;> simp
theorem kp {α : Type} {l : List α} {i : Nat} (h : i < l.length) : ∃ x xs, l.drop i = x :: xs ∧ l[i]? = some x ∧ l.drop (i + 1) = xs := by
 cases a : l.drop i with
 | nil => have := bA List.length a; simp at this; omega
 | cons x xs => exact ⟨x, xs, rfl, by rw [← List.head?_drop, a]; rfl, by rw [← List.drop_drop, a]; rfl⟩
theorem EY {P : Program} {W : World} (d : Nat) (xs ys : Array Value) : (Op.eqFields d xs ys []).run P W = .ok true W := by simp [Op.eqFields]
theorem rh {P : Program} {W : World} {d : Nat} {xs ys : Array Value} {f : Field} {fs : List Field} {a b : Value} {r s : Bool} (i : f.name ≠ "_") (ha : (part f.type xs f.offset).run P W = .ok a W) (g : (part f.type ys f.offset).run P W = .ok b W) (he : (Op.equalIn d f.type a b).run P W = .ok r W) (h : (Op.eqFields d xs ys fs).run P W = .ok s W) : (Op.eqFields d xs ys (f :: fs)).run P W = .ok (r && s) W := by
 simp only [Op.eqFields, ne_eq, i, not_false_eq_true, aU, bZ, ha, g, he, bK]
 cases r <;> simp [h]
theorem zI {P : Program} {W : World} {t : TypeId} {k : Nat} {cs : Array Value} {off : Nat} {v : Array Value} (a : ∀ w, (isAgg t).run P w = .ok true w) (b : ∀ w, (sizeOf t).run P w = .ok k w) (d : cs.extract off (off + k) = v) : (part t cs off).run P W = .ok (.agg v) W := by
 simp [part, a W, b W, d]
theorem pD {P : Program} {W : World} {t : TypeId} {cs : Array Value} {off : Nat} {v : Value} (a : ∀ w, (isAgg t).run P w = .ok false w) (b : cs[off]? = some v) : (part t cs off).run P W = .ok v W := by
 simp [part, a W, b]
def kV (a b : ByteArray) : Bool := a.toList == b.toList
theorem Mg {P : Program} {t : TypeId} (g : P.underlying t = some .string) (d : Nat) (a b : ByteArray) (W : World) : (Op.equalIn (d + 1) t (.string a) (.string b)).run P W = .ok (kV a b) W := run_equalIn_string W d t a b g
theorem U2 {P : Program} {t : TypeId} {k : IntKind} (g : P.underlying t = some (.int k)) (d : Nat) (a b : Int) (W : World) : (Op.equalIn (d + 1) t (.int k a) (.int k b)).run P W = .ok (a == b) W := run_equalIn_int W d t k k a b g
theorem nf {P : Program} {op : BinOp} {t : TypeId} {x y : Operand} {a b : Array Value} (d : P.eqGuardType P.depth t = false) (W : World) : (eqGuard op t x y (.agg a) (.agg b)).run P W = .ok () W := by
 cases op <;> simp [eqGuard] <;> (intro h; rw [d] at h; cases h)
theorem rb {P : Program} {t : TypeId} {a b : Array Value} {r : Bool} (h : ∀ W, (Op.equalIn Op.maxDepth t (.agg a) (.agg b)).run P W = .ok r W) (W : World) : (binOp .eql t (.agg a) (.agg b)).run P W = .ok (.bool r) W := by
 simp [binOp, Op.equal, h W]
theorem zD {P : Program} {t : TypeId} {a b : Array Value} {r : Bool} (h : ∀ W, (Op.equalIn Op.maxDepth t (.agg a) (.agg b)).run P W = .ok r W) (W : World) : (binOp .neq t (.agg a) (.agg b)).run P W = .ok (.bool !r) W := by
 simp [binOp, Op.equal, h W]
end Go.Proofs.YtjjjihkifgdhgaaGreatDoor
namespace Go.Proofs.YtjjjihkifgdhgaaGreatDoor
open Go.RowKit
variable [M : Md]
variable {dd : Bool}
def kN (k : IntKind) (x : Int) : List Value := [.int k x]
def SE (x : Bool) : List Value := [.bool x]
def tb (x : ByteArray) : List Value := [.string x]
theorem Hk (k : IntKind) (x : Int) : ∀ u ∈ kN k x, u.oneCell' = true := by intro u hu; simp [kN] at hu; subst hu; rfl
theorem Uv (x : Bool) : ∀ u ∈ SE x, u.oneCell' = true := by intro u hu; simp [SE] at hu; subst hu; rfl
theorem Nv (x : ByteArray) : ∀ u ∈ tb x, u.oneCell' = true := by intro u hu; simp [tb] at hu; subst hu; rfl
def zS : ByteArray := ⟨#[]⟩
def pY (a b : ByteArray) : Bool := Op.bytesLess a.toList b.toList
@[irreducible] def ki : Nat := 18446744073709551616
theorem xv : ki = 18446744073709551616 := by unfold ki; rfl
def lG {α : Type} (l : List α) (i : Int) : Option α := if 0 ≤ i then l[i.toNat]? else none
theorem ky {α : Type} {l : List α} {i : Int} {x : α} (h : lG l i = some x) : 0 ≤ i := by
 unfold lG at h; split at h
 ·assumption
 ·cases h
theorem kv {α : Type} {l : List α} {i : Int} {x : α} (h : lG l i = some x) : l[i.toNat]? = some x := by
 unfold lG at h; split at h
 ·exact h
 ·cases h
theorem FM {α : Type} (l : List α) (i : Nat) : lG l (i : Int) = l[i]? := by simp [lG]
def AM (s : ByteArray) (i : Int) : Option UInt8 := if 0 ≤ i then s[i.toNat]? else none
theorem Ad {s : ByteArray} {i : Int} {x : UInt8} (h : AM s i = some x) : 0 ≤ i := by
 unfold AM at h; split at h
 ·assumption
 ·cases h
theorem DT {s : ByteArray} {i : Int} {x : UInt8} (h : AM s i = some x) : s[i.toNat]? = some x := by
 unfold AM at h; split at h
 ·exact h
 ·cases h
section
variable {F : Nat → Prop} {w W : World} {μ : km} {L L' : List (Nat × Obj)} {α : Type} {e : TypeId} {enc : α → List Value} {k : Nat} {v : Value} {l : List α} {R : List (Nat × Obj)}
theorem ST.at_ (h : ST dd F w W μ L) {b : Nat} {o : Obj} (a : (b, o) ∈ L) : hp W b = some o := (h.box b o a).1
theorem jZ.Ul (h : jZ e enc k v l R) (hk : ∀ x, (enc x).length = k) (a : ST dd F w W μ L) (b : ∀ p, p ∈ R → p ∈ L) : Sl (Pl enc) k (hp W) v l :=
 h.sl hk (fun _ _ d => a.at_ (b _ d))
theorem jZ.form (h : jZ e enc k v l R) : ∃ A c, v = .slice A l.length c := by
 rcases h with ⟨rfl, rfl, rfl⟩ | ⟨g, cap, a, rfl, rfl, h1, b, d, i⟩
 ·exact ⟨_, _, rfl⟩
 ·exact ⟨_, _, rfl⟩
theorem Sl.form {R : qe α} (h : Sl R k μ v l) : ∃ A c, v = .slice A l.length c := let ⟨A, c, h, _⟩ := h; ⟨A, c, h⟩
theorem jZ.Qp (h : jZ e enc k v l R) (d : ST dd kx w W μ L) (j : ∀ p, p ∈ R → p ∈ L) : Fr w.heap.size v := by
 rcases h with ⟨rfl, rfl, rfl⟩ | ⟨g, cap, a, rfl, rfl, h1, m, n, t⟩
 ·exact Fr.nil _
 ·intro b i
  simp [Value.ownBlock] at i
  subst i
  rcases (d.box g (.cells a e (0, 0)) (j _ (bP.2 rfl))).2.2 with h | h
  ·exact h
  ·exact h.elim
theorem Sl.lit {b m : Nat} {cs : Array Value} (hk : ∀ x, (enc x).length = k) (hm : l.length = m) (d : m ≤ maxLen) (a : cs.toList = (l.map enc).flatten) (g : μ b = some (.cells cs e (0, 0))) : Sl (Pl enc) k μ (.slice (some ⟨b, 0, none⟩) m m) l :=
 (jZ.lit (e := e) (b := b) hm d a (by have := bA List.length a; rw [pd hk, dv, hm] at this; exact this)).sl hk (fun i o h => by simp at h; obtain ⟨rfl, rfl⟩ := h; exact g)
theorem Fr.box (h : ST dd kx w W μ L) {b m c : Nat} {o : Obj} (d : (b, o) ∈ L) : Fr w.heap.size (.slice (some ⟨b, 0, none⟩) m c) := by
 intro g a
 simp [Value.ownBlock] at a
 subst a
 rcases (h.box b o d).2.2 with h | h
 ·exact h
 ·exact h.elim
theorem ST.perm (h : ST dd F w W μ L) (hp : L.Perm L') : ST dd F w W μ L' :=
 ⟨h.os, h.tape, h.output, h.drawn, h.size, h.lZ, h.mem, fun b o a => h.box b o (hp.mem_iff.2 a), (hp.map _).nodup_iff.1 h.nd⟩
theorem ST.sublist (h : ST dd F w W μ L) (a : L'.Sublist L) : ST dd F w W μ L' :=
 ⟨h.os, h.tape, h.output, h.drawn, h.size, h.lZ, h.mem, fun b o d => h.box b o (a.subset d), h.nd.sublist (a.map _)⟩
end
section
variable {E : Nat → Value} {x1 x2 x3 x4 x5 x6 : Operand} {v1 v2 v3 v4 v5 v6 : Value}
theorem qW (h1 : jK E x1 = v1) : #[x1].map (jK E) ++ (#[] : Array Value) = [v1].toArray := by simp [h1]
theorem uI (h1 : jK E x1 = v1) (a : jK E x2 = v2) : #[x1, x2].map (jK E) ++ (#[] : Array Value) = [v1, v2].toArray := by simp [h1, a]
end
theorem Jb : ∀ (v : List Value) (i off : Nat) (cells : Array Value), off + i + v.length ≤ cells.size →
  (v.zipIdx i).foldl (fun cs (c, j) => cs.setIfInBounds (off + j) c) cells = (cells.toList.take (off + i) ++ v ++ cells.toList.drop (off + i + v.length)).toArray
 | [], i, off, cells, h => by simp
 | c :: v, i, off, cells, h => by
  simp only [iT, fX]
  simp only [aQ] at h
  rw [Jb v (i + 1) off _ (by simp; omega)]
  have d : off + i < cells.toList.length := by simp; omega
  congr 1
  rw [Array.toList_setIfInBounds]
  apply eA
  intro j
  have g : (cells.toList.take (off + i)).length = off + i := by simp; omega
  by_cases h1 : j < off + i
  ·simp only [fE, aF, cZ, gN, dv, aQ, fj, eQ, dS]
   rw [show min (off + (i + 1)) cells.size = off + (i + 1) by omega, show min (off + i) cells.size = off + i by omega]
   rw [bB (by omega), bB (by omega), bB (by omega), bE (by omega), bB (by omega), bB (by omega), bB (by omega)]
  ·by_cases b : j = off + i
   ·subst b
    simp [fE, fj, eQ, show off + i < off + (i + 1) by omega]
    rw [bB (by omega), bB (by omega), bE (by omega), show off + i - min (off + i) cells.size = 0 by omega]
    rfl
   ·simp only [fE, aF, cZ, gN, dv, aQ, fj, eQ, dS]
    rw [show min (off + (i + 1)) cells.size = off + (i + 1) by omega, show min (off + i) cells.size = off + i by omega]
    by_cases a : j < off + (i + 1) + v.length
    ·rw [bB a, bE (by omega), bB (by omega), bE (by omega)]
     rw [show j - (off + i) = (j - (off + (i + 1))) + 1 by omega]
     simp
    ·rw [bE a, bE (by omega), bE (by omega)]
     congr 1
     omega
theorem KI {k : Nat} : ∀ (vs : List Value) (i : Nat) (pre rest : List Value), (∀ v ∈ vs, v.cells.size = k) → pre.length = i * k → rest.length = vs.length * k →
  Instr.fill (fun i => some (i * k, k)) (pre ++ rest).toArray ((vs.zipIdx i).map (fun p => (p.2, p.1))) = some (pre ++ vs.flatMap (fun v => v.cells.toList)).toArray
 | [], i, pre, rest, d, hp, b => by
  have : rest = [] := by cases rest <;> simp at b ⊢
  simp [Instr.fill, this]
 | v :: vs, i, pre, rest, d, hp, b => by
  have a := d v (by simp)
  have g : v.cells.zipIdx.foldl (fun cs (c, j) => cs.setIfInBounds (i * k + j) c) (pre ++ rest).toArray = (pre ++ v.cells.toList ++ rest.drop k).toArray := by
   have := Jb v.cells.toList 0 (i * k) (pre ++ rest).toArray (by simp [hp, b, a, cR])
   rw [← Array.toList_zipIdx, Array.foldl_toList] at this
   rw [this]
   congr 1
   simp [← hp, a]
  simp only [iT, bL, Instr.fill]
  rw [bE (by simp [a, hp, b, cR]), g]
  have := KI vs (i + 1) (pre ++ v.cells.toList) (rest.drop k) (fun u hu => d u (by simp [hu])) (by simp [hp, a, cR]) (by simp [b, cR])
  rw [this]
  simp
theorem Pc {k m : Nat} {a cs : Array Value} {b : Array (Nat × Value)} (vs : List Value) (g : b.toList = vs.zipIdx.map (fun p => (p.2, p.1))) (j : ∀ v ∈ vs, v.cells.size = k) (hm : vs.length = m) (h : a.size = m * k) (d : (vs.flatMap (fun v => v.cells.toList)).toArray = cs) : Instr.fill (fun i => some (i * k, k)) a b.toList = some cs := by
 subst hm d
 rw [g]
 have := KI vs 0 [] a.toList j (by simp) (by simpa using h)
 simpa using this
theorem Bi {P : Program} {t e : TypeId} {m k : Nat} {z : Value} {a : Array (Nat × Value)} {cs : Array Value} (vs : List Value) (i : P.underlying t = some (.slice e)) (h : ∀ w, (sizeOf e).run P w = .ok k w) (l : ∀ w, (zeroValue e).run P w = .ok z w) (hm : m * k ≤ 16777216) (g : a.toList = vs.zipIdx.map (fun p => (p.2, p.1))) (j : ∀ v ∈ vs, v.cells.size = k) (d : vs.length = m) (b : (vs.flatMap (fun v => v.cells.toList)).toArray = cs) (W : World) :
  (Instr.buildSlice t m a).run P W = .ok (.slice (some ⟨W.heap.size, 0, none⟩) m m) (W.alloc (.cells cs e (0, 0))) :=
 Is i h l hm (Pc vs g j d (by simp) b) W
theorem qt {E : Nat → Value}  : (#[] : Array (Nat × Operand)).map (fun (i, x) => (i, jK E x)) = #[] := by simp
theorem lW {E : Nat → Value} {x0 : Operand} {v0 : Value} {i0 : Nat} (a : jK E x0 = v0) : (#[(i0, x0)] : Array (Nat × Operand)).map (fun (i, x) => (i, jK E x)) = #[(i0, v0)] := by simp [a]
theorem pw {E : Nat → Value} {x0 x1 : Operand} {v0 v1 : Value} {i0 i1 : Nat} (a : jK E x0 = v0) (h1 : jK E x1 = v1) : (#[(i0, x0), (i1, x1)] : Array (Nat × Operand)).map (fun (i, x) => (i, jK E x)) = #[(i0, v0), (i1, v1)] := by simp [a, h1]
theorem Dx {E : Nat → Value} {x0 x1 x2 : Operand} {v0 v1 v2 : Value} {i0 i1 i2 : Nat} (a : jK E x0 = v0) (h1 : jK E x1 = v1) (b : jK E x2 = v2) : (#[(i0, x0), (i1, x1), (i2, x2)] : Array (Nat × Operand)).map (fun (i, x) => (i, jK E x)) = #[(i0, v0), (i1, v1), (i2, v2)] := by simp [a, h1, b]
theorem Sx {E : Nat → Value} {x0 x1 x2 x3 : Operand} {v0 v1 v2 v3 : Value} {i0 i1 i2 i3 : Nat} (a : jK E x0 = v0) (h1 : jK E x1 = v1) (b : jK E x2 = v2) (d : jK E x3 = v3) : (#[(i0, x0), (i1, x1), (i2, x2), (i3, x3)] : Array (Nat × Operand)).map (fun (i, x) => (i, jK E x)) = #[(i0, v0), (i1, v1), (i2, v2), (i3, v3)] := by simp [a, h1, b, d]
theorem SR {E : Nat → Value} {x0 x1 x2 x3 x4 : Operand} {v0 v1 v2 v3 v4 : Value} {i0 i1 i2 i3 i4 : Nat} (a : jK E x0 = v0) (h1 : jK E x1 = v1) (b : jK E x2 = v2) (d : jK E x3 = v3) (g : jK E x4 = v4) : (#[(i0, x0), (i1, x1), (i2, x2), (i3, x3), (i4, x4)] : Array (Nat × Operand)).map (fun (i, x) => (i, jK E x)) = #[(i0, v0), (i1, v1), (i2, v2), (i3, v3), (i4, v4)] := by simp [a, h1, b, d, g]
theorem kF {P : Program} {t : TypeId} {f off : Nat} {fs : Array Field} {fd : Field} (h : P.underlying t = some (.struct fs)) (a : fs[f]? = some fd) {k : Nat} (g : ∀ w, (sizeOf fd.type).run P w = .ok k w) (hk : k ≠ 0) (d : fd.offset = off) : li P t f off := by
 intro b o w
 subst d
 simp [Instr.fieldAt, aY h, a, Instr.sureAddr, fieldPlace, dz, g w, hk]
theorem Ag.Hs {n : Nat} {a : Act} {E : Nat → Value} (h : Ag n a E) {ops : Array Oper} {j t : Nat} (d : (ops[j]?).bind (·.dst) = some t) (i : t < n) (k : E t = undef) : yielded ops a.tmps j = none := by
 have b := h.2.2 t
 have g : a.tmps[t]? = some (E t) := by
  rw [← b]
  simp [eC, h.1, i]
 simp [yielded, d, g, k, undef]
theorem SC {P : Program} {n : Nat} {Q : qj} {E : Nat → Value} {W : World} {ops : Array Oper} {rest : List Oper} {o : Oper} {d j t : Nat} {want : Bool} (g : o.dst = some d) (l : d < n) (i : o.guard = some (j, want)) (k : (ops[j]?).bind (·.dst) = some t) (m : t < n) (b : E t = undef) (h : LW P n ops Q rest (nS E d undef) W) : LW P n ops Q (o :: rest) E W := fun a ha => by
 unfold wpListIn
 have p := ha.Hs k m b
 rw [bE (by simp [Region.wanted, i, p])]
 rw [g]
 exact ⟨fun _ _ => trivial, h _ (ha.put l _)⟩
theorem Tv {P : Program} {n : Nat} {Q : qj} {E : Nat → Value} {W : World} {ops : Array Oper} {rest : List Oper} {A : Value → Prop} {o : Oper} {dd : Nat} (hw : sW n ops E o) (b : o.dst = some dd) (d : dd < n) (g : ∃ p, A p ∧ ∀ W, lQ P E o W p W) (h : ∀ p, A p → LW P n ops Q rest (nS E dd p) W) : LW P n ops Q (o :: rest) E W := by
 obtain ⟨p, h1, a⟩ := g
 exact IN hw b d (a W) (h p h1)
end Go.Proofs.YtjjjihkifgdhgaaGreatDoor
namespace Go.Proofs.YtjjjihkifgdhgaaGreatDoor
open Go.RowKit
variable [M : Md]
variable {dd : Bool}
theorem pk {P : Program} {n : Nat} {x : Code} {Q : qj} {E : Nat → Value} {W : World} (h : CW P n x (qz (fun E W => Q .normal E W) Q) E W) : CW P n x Q E W :=
 IA h (fun e E W h => by cases e <;> exact h)
section
variable {P : Program} {n : Nat} {Q : qj} {E : Nat → Value} {W : World} {d : Option Nat} {ty : TypeId} {pos : String} {af : Array Edge} {g : Option (Nat × Bool)}
 {F : Nat → Prop} {w : World} {μ : km} {L : List (Nat × Obj)}
def QE (k : IntKind) (op : BinOp) (a b : Int) : Option Value :=
 match op with
 | .quo => some (.int k (k.wrap (a.tdiv b)))
 | .rem => some (.int k (a.tmod b))
 | .and => some (.int k (k.wrap (BitVec.ofInt k.bits a &&& BitVec.ofInt k.bits b).toNat))
 | .or => some (.int k (k.wrap (BitVec.ofInt k.bits a ||| BitVec.ofInt k.bits b).toNat))
 | _ => none
theorem JN {op : BinOp} {tx tv : TypeId} {x y : Operand} {k : IntKind} {a b : Int} {v : Value} (j : jK E x = .int k a) (l : jK E y = .int k b) (i : b ≠ 0) (h : QE k op a b = some v) :
  lQ P E ⟨d, .binOp op tx x y tv, ty, pos, af, g⟩ W v W := by
 show (do let r ← (do eqGuard op tx x y (jK E x) (jK E y); binOp op tx (jK E x) (jK E y)); pure (.value r) : Sem Next).run P W = _
 rw [j, l]
 cases op <;> simp [QE] at h <;> subst h <;> simp [eqGuard, binOp, Op.intDiv, Op.intBits, i]
theorem Ia {tx tv : TypeId} {x y : Operand} {k k' : IntKind} {a b : Int} (h : jK E x = .int k a) (i : jK E y = .int k' b) (j : 0 ≤ b) :
  lQ P E ⟨d, .binOp .shr tx x y tv, ty, pos, af, g⟩ W (.int k (a.fdiv (2 ^ min b.toNat k.bits))) W := by
 show (do let r ← (do eqGuard .shr tx x y (jK E x) (jK E y); binOp .shr tx (jK E x) (jK E y)); pure (.value r) : Sem Next).run P W = _
 rw [h, i]
 simp [eqGuard, binOp, Op.shift, show ¬ b < 0 by omega]
theorem ri {s t : TypeId} {x : Operand} {k k' : IntKind} {a : Int} {u : TypeDesc} (b : P.underlying s = some u) (h : P.underlying t = some (.int k)) (i : jK E x = .int k' a) :
  lQ P E ⟨d, .convert s t x, ty, pos, af, g⟩ W (.int k (k.wrap a)) W := by
 show (do pure (.value (← convert s t (jK E x))) : Sem Next).run P W = _
 rw [i]
 simp [convert, aY b, aY h, Conv.intToInt]
theorem ID {t e : TypeId} (dd : Nat) (a : P.underlying t = some (.slice e)) (A : Option Addr) (l c : Nat) (W : World) : (Op.equalIn (dd + 1) t (.slice A l c) (.slice none 0 0)).run P W = .ok A.isNone W := by
 cases A <;> simp [Op.equalIn, aY a]
theorem BV {tx tv e : TypeId} {x y : Operand} {A : Option Addr} {l c : Nat} (b : P.underlying tx = some (.slice e)) (h : jK E x = .slice A l c) (i : jK E y = .slice none 0 0) :
  lQ P E ⟨d, .binOp .eql tx x y tv, ty, pos, af, g⟩ W (.bool A.isNone) W := by
 show (do let r ← (do eqGuard .eql tx x y (jK E x) (jK E y); binOp .eql tx (jK E x) (jK E y)); pure (.value r) : Sem Next).run P W = _
 rw [h, i]
 have a := ID 9999 b A l c W
 simp [eqGuard, binOp, Op.equal, show Op.maxDepth = 9999 + 1 from rfl, a]
def mz (s : ByteArray) : List Int := s.data.toList.map (fun b => (b.toNat : Int))
def Dt (s : ByteArray) : Option (List Int) := if s.size ≤ maxLen then some (mz s) else none
theorem mX (s : ByteArray) : (mz s).length = s.size := by simp only [mz, dm, dv]; rfl
theorem ND {s : ByteArray} {cap i : Nat} {x : Int} (h : (mz s)[i]? = some x) : (bytesRow s cap)[i]? = some (.int .u8 x) := by
 have g : i < s.size := by have := (bF.1 h).1; rwa [mX] at this
 have a : i < s.data.size := g
 simp [mz] at h
 obtain ⟨b, d, rfl⟩ := h
 rw [bytesRow, Array.getElem?_append_left (by simpa using a)]
 simp [d]
theorem Jn {K : Value → World → Prop} {s t e : TypeId} {x : Operand} {str : ByteArray} {l : List Int} (k : ST dd F w W μ L) (z : P.underlying s = some .string) (u : P.underlying t = some (.slice e)) (he : P.underlying e = some (.int .u8)) (n : jK E x = .string str) (a : Dt str = some l) (h : ∀ W' v μ', ST dd F w W' μ' L → kj μ μ' → Lo F w μ μ' → Sl (Pl (kN .u8)) 1 μ' v l → Fr w.heap.size v → K v W') : ng P E ⟨d, .convert s t x, ty, pos, af, g⟩ W K := by
 unfold Dt at a
 split at a
 case isFalse => cases a
 rename_i hm
 cases a
 have m := run_bytes_of_string (P := P) W s t e str z u he
 have h1 := k.drew.alloc (.cells (bytesRow str (grownCap W str.size 0 e)) e ((bytesRow str (grownCap W str.size 0 e)).size, (bytesRow str (grownCap W str.size 0 e)).size + 1))
 refine .inl ⟨.slice (some ⟨W.heap.size, 0, none⟩) str.size (grownCap W str.size 0 e), _, ?_, h _ _ _ (ST.IR (A := []) h1) (ST.Ix (A := []) h1) (ST.OL (A := []) h1) ?_ ?_⟩
 ·show (do pure (.value (← convert s t (jK E x))) : Sem Next).run P W = _
  rw [n]
  simp only [bZ, m, bK, cW]
 ·refine ⟨_, grownCap W str.size 0 e, by rw [mX], by rw [mX]; exact grownCap_ge W str.size 0 e, ie W str.size 0 e hm, fun _ => ⟨W.heap.size, 0, bytesRow str (grownCap W str.size 0 e), e, _, rfl, bB rfl, fun i x n => ⟨_, rfl, rfl, fun j y p => ?_⟩⟩⟩
  cases j with
  | zero => simp [kN] at p; subst p; simpa using ND n
  | succ j => simp [kN] at p
 ·intro b a
  simp [Value.ownBlock] at a
  subst a
  exact k.size
def EB (l : List Int) : ByteArray := l.foldl (fun r n => r.push (UInt8.ofNat n.toNat)) ByteArray.empty
theorem Mm {s t e : TypeId} {x : Operand} {v : Value} {l : List Int} (I : P.underlying s = some (.slice e)) (he : P.underlying e = some (.int .u8)) (G : P.underlying t = some .string) (L : jK E x = v) (J : Sl (Pl (kN .u8)) 1 (hp W) v l) :
  lQ P E ⟨d, .convert s t x, ty, pos, af, g⟩ W (.string (EB l)) W := by
 show (do pure (.value (← convert s t (jK E x))) : Sem Next).run P W = _
 obtain ⟨A, c, rfl, M, O, u⟩ := J
 rw [L]
 simp only [bZ, run_convert_bytes_string W s t e A l.length c I he G]
 rcases dZ l.length with h | h
 ·have : l = [] := eb.1 h
  subst this
  cases A with
  | none => simp [Conv.bytesToString, EB]
  | some a =>
   have w := run_bytesToString (P := P) W a 0 c [] (by simpa using ic (P := P) W a [] (by simp))
   simp only [bV]
   rw [w]
   simp [EB]
 ·obtain ⟨b, off, cs, T, fr, rfl, y, z⟩ := u h
  have p := ic (P := P) W ⟨b, off, none⟩ (l.map (Value.int .u8)) (fun j v n => by
   simp at n
   obtain ⟨x, k, rfl⟩ := n
   obtain ⟨ys, _, m, i⟩ := z j x k
   cases m
   rw [dz, fi W b (off + j) cs T fr y]
   have := i 0 (.int .u8 x) rfl
   simpa using this)
  simp only [dm] at p
  rw [run_bytesToString W _ l.length c l p]
  simp [EB]
end
end Go.Proofs.YtjjjihkifgdhgaaGreatDoor
namespace Go.Proofs.YtjjjihkifgdhgaaGreatDoor
open Go.RowKit
variable {dd : Bool}
def keys (L : List (Nat × Obj)) : Nat → Prop := fun b => ∃ o, (b, o) ∈ L
structure UX (dd : Bool) (F : Nat → Prop) (w W : World) : Prop where
 os : W.os = w.os
 tape : W.tape = w.tape
 output : W.output = w.output
 drawn : tH dd w.drawn W.drawn
 size : w.heap.size ≤ W.heap.size
 lZ : ∀ b, b < w.heap.size → ¬ F b → W.heap[b]? = w.heap[b]?
def Fl (L : List (Nat × Obj)) (W : World) : Prop := ∀ b o, (b, o) ∈ L → W.heap[b]? = some o
structure uj (dd : Bool) (L0 L1 : List (Nat × Obj)) (w w' : World) : Prop where
 ex : UX dd (keys L0) w w'
 held : ∀ b o, (b, o) ∈ L1 → w'.heap[b]? = some o ∧ (w.heap.size ≤ b ∨ keys L0 b)
 nd : (L1.map (·.1)).Nodup
open Classical in
noncomputable def uK (w : World) (L : List (Nat × Obj)) : km := fun b => if keys L b then none else w.heap[b]?
open Classical in
noncomputable def Ca (μ : km) (W W' : World) (L1 : List (Nat × Obj)) : km := fun b => if b < W.heap.size then μ b else if keys L1 b then none else W'.heap[b]?
section
variable {F : Nat → Prop} {w W W' : World} {μ μ' : km} {L L0 L1 : List (Nat × Obj)}
theorem ST.SO (a : Fl L0 w) (d : (L0.map (·.1)).Nodup) : ST dd (keys L0) w w (uK w L0) L0 :=
 ⟨rfl, rfl, rfl, tH.of (aX _), aX _, fun _ _ _ => rfl, fun b o h => by
  unfold uK at h; split at h
  ·cases h
  ·exact h, fun b o h => ⟨a b o h, by unfold uK; rw [bB ⟨o, h⟩], .inr ⟨o, h⟩⟩, d⟩
theorem FP {A B : List (Nat × Obj)} (h : ((A ++ B).map (·.1)).Nodup) {b : Nat} {o : Obj} (a : (b, o) ∈ B) : ¬ keys A b := by
 rintro ⟨g, d⟩
 rw [cE] at h
 exact (bX.1 h).2.2 b (bJ.2 ⟨_, d, rfl⟩) b (bJ.2 ⟨_, a, rfl⟩) rfl
theorem ST.back (h : ST dd F w W μ (L0 ++ L)) (j : uj dd L0 L1 W W') : ST dd F w W' (Ca μ W W' L1) (L1 ++ L) := by
 have hk : ∀ b, keys L0 b → b < W.heap.size ∧ μ b = none ∧ (w.heap.size ≤ b ∨ F b) := fun b ⟨o, d⟩ => by
  obtain ⟨h1, g, m⟩ := h.box b o (cI _ d)
  exact ⟨nV h1, g, m⟩
 refine ⟨j.ex.os.trans h.os, j.ex.tape.trans h.tape, j.ex.output.trans h.output, tH.trans h.drawn j.ex.drawn, dq h.size j.ex.size, fun b i n => ?_, fun b o d => ?_, fun b o d => ?_, ?_⟩
 ·rw [j.ex.lZ b (dY i h.size) (fun k => by
   rcases (hk b k).2.2 with h | h
   ·omega
   ·exact n h)]
  exact h.lZ b i n
 ·unfold Ca at d
  split at d
  ·rename_i i
   rw [j.ex.lZ b i (fun k => by rw [(hk b k).2.1] at d; cases d)]
   exact h.mem b o d
  ·split at d
   ·cases d
   ·exact d
 ·rcases aW.1 d with d | d
  ·obtain ⟨h1, g⟩ := j.held b o d
   refine ⟨h1, ?_, ?_⟩
   ·unfold Ca
    split
    ·rename_i i
     rcases g with g | g
     ·omega
     ·exact (hk b g).2.1
    ·rw [bB ⟨o, d⟩]
   ·rcases g with g | g
    ·exact .inl (dq h.size g)
    ·exact (hk b g).2.2
  ·obtain ⟨h1, g, m⟩ := h.box b o (dU _ d)
   refine ⟨?_, ?_, m⟩
   ·rw [j.ex.lZ b (nV h1) (FP h.nd d)]; exact h1
   ·unfold Ca; rw [bB (nV h1)]; exact g
 ·rw [cE]
  have t : (L.map (·.1)).Nodup := by have := h.nd; rw [cE] at this; exact (bX.1 this).2.1
  refine bX.2 ⟨j.nd, t, fun a ha c u e => ?_⟩
  subst e
  obtain ⟨⟨b, o⟩, d, rfl⟩ := bJ.1 ha
  obtain ⟨⟨p, v⟩, l, e⟩ := bJ.1 u
  simp at e; subst e
  have i := h.Hp (dU _ l)
  rcases (j.held p o d).2 with g | g
  ·omega
  ·exact FP h.nd l g
theorem ST.KP (h : ST dd F w W μ L) (W' : World) (L1 : List (Nat × Obj)) : Lo F w μ (Ca μ W W' L1) := fun b a _ => bB (dY a h.size)
theorem ST.I6 (h : ST dd F w W μ L) (W' : World) (L1 : List (Nat × Obj)) : kj μ (Ca μ W W' L1) := fun b o a => by
 unfold Ca; rw [bB (h.FN a)]; exact a
theorem ST.kR (h : ST dd F w W μ L) (d : ∀ p, p ∈ L0 → p ∈ L) : kj μ (uK W L0) := fun b o a => by
 unfold uK
 rw [bE]
 ·exact h.mem b o a
 ·rintro ⟨i, g⟩
  rw [(h.box b i (d _ g)).2.1] at a
  cases a
theorem uj.JL (h : Ex dd w W) (d : ∀ b o, (b, o) ∈ L1 → W.heap[b]? = some o ∧ w.heap.size ≤ b) (g : (L1.map (·.1)).Nodup) : uj dd [] L1 w W :=
 ⟨⟨h.os, h.tape, h.output, h.drawn, h.size, fun b a _ => h.lZ b a⟩, fun b o a => ⟨(d b o a).1, .inl (d b o a).2⟩, g⟩
end
def kY (dd : Bool) (P : Program) (f : FuncId) (args : List Value) (w : World) (L0 : List (Nat × Obj)) (K : Value → List (Nat × Obj) → World → Prop) : Prop :=
 Calls P f args.toArray w fun e a => ∃ v L1, e = .returned v ∧ uj dd L0 L1 w a ∧ K v L1 a
def lV (dd : Bool) {α : Type} (P : Program) (f : FuncId) (args : List Value) (w : World) (e : TypeId) (enc : α → List Value) (k : Nat) (l : List α) : Prop :=
 kY dd P f args w [] fun v R _ => jZ e enc k v l R
theorem uj.lE {L0 L1 : List (Nat × Obj)} {w a : World} (h : uj true L0 L1 w a) : uj dd L0 L1 w a := ⟨⟨h.ex.os, h.ex.tape, h.ex.output, tH.of (h.ex.drawn rfl), h.ex.size, h.ex.lZ⟩, h.held, h.nd⟩
theorem jV.lE {P : Program} {f : FuncId} {args : List Value} {w : World} {v : Value} (h : jV true P f args w v) : jV dd P f args w v := cV h fun _ _ h => ⟨h.1, h.2.lE⟩
theorem kY.lE {P : Program} {f : FuncId} {args : List Value} {w : World} {L0 : List (Nat × Obj)} {K : Value → List (Nat × Obj) → World → Prop} (h : kY true P f args w L0 K) : kY dd P f args w L0 K := cV h fun _ _ ⟨v, L1, h1, a, b⟩ => ⟨v, L1, h1, a.lE, b⟩
theorem lV.lE {α : Type} {P : Program} {f : FuncId} {args : List Value} {w : World} {e : TypeId} {enc : α → List Value} {k : Nat} {l : List α} (h : lV true P f args w e enc k l) : lV dd P f args w e enc k l := kY.lE h
section
variable {P : Program} {E : Nat → Value} {W : World} {d : Option Nat} {ty : TypeId} {pos : String} {af : Array Edge} {g : Option (Nat × Bool)}
 {F : Nat → Prop} {w : World} {μ : km} {L : List (Nat × Obj)}
theorem PC {K : Value → World → Prop} {K' : Value → List (Nat × Obj) → World → Prop} {f : FuncId} {fv : Operand} {ax : Array Operand} {ats : Array TypeId} {caps : Array Value} {args : List Value} (L0 L2 : List (Nat × Obj)) (a : ST dd F w W μ L) (b : L.Perm (L0 ++ L2)) (l : jK E fv = .func (.func f) #[] caps) (he : ∀ args w, (callFunc f args).run P w = .ok (.enter f args) w) (ha : ax.map (jK E) ++ caps = args.toArray) (k : kY dd P f args W L0 K') (h : ∀ W' v μ' L1, ST dd F w W' μ' (L1 ++ L2) → kj μ μ' → Lo F w μ μ' → K' v L1 W' → K v W') : ng P E ⟨d, .call ⟨.value fv, ax, ats⟩, ty, pos, af, g⟩ W K :=
 CX l he ha (cV k (fun _ W' ⟨v, L1, h1, i, j⟩ => ⟨v, h1, h W' v _ L1 ((a.perm b).back i) ((a.perm b).I6 W' L1) ((a.perm b).KP W' L1) j⟩))
theorem M7 {K : Value → World → Prop} {α : Type} {e : TypeId} {enc : α → List Value} {k : Nat} {l : List α} {f : FuncId} {fv : Operand} {ax : Array Operand} {ats : Array TypeId} {caps : Array Value} {args : List Value} (X Y : List (Nat × Obj)) (a : ST dd F w W μ (X ++ Y)) (n : jK E fv = .func (.func f) #[] caps) (he : ∀ args w, (callFunc f args).run P w = .ok (.enter f args) w) (ha : ax.map (jK E) ++ caps = args.toArray) (m : lV dd P f args W e enc k l) (h : ∀ W' v μ' R, ST dd F w W' μ' (X ++ (R ++ Y)) → kj μ μ' → Lo F w μ μ' → jZ e enc k v l R → K v W') : ng P E ⟨d, .call ⟨.value fv, ax, ats⟩, ty, pos, af, g⟩ W K :=
 PC [] (X ++ Y) a (.refl _) n he ha m (fun W' v μ' L1 h1 b j i => h W' v μ' L1 (h1.perm (by rw [← aM, ← aM]; exact List.perm_append_comm.append_right Y)) b j i)
end
theorem ST.nM {w W : World} {μ : km} {L R : List (Nat × Obj)} (h : ST dd kx w W μ L) (a : ∀ p, p ∈ R → p ∈ L) (g : (R.map (·.1)).Nodup) : uj dd [] R w W :=
 uj.JL h.ex (fun b o d => ⟨(h.box b o (a _ d)).1, by
  rcases (h.box b o (a _ d)).2.2 with h | h
  ·exact h
  ·exact h.elim⟩) g
theorem nw {P : Program} {E : Nat → Value} {W : World} {d : Option Nat} {ty : TypeId} {pos : String} {af : Array Edge} {g : Option (Nat × Bool)} {α : Type} {e' : TypeId} {enc : α → List Value} {k : Nat} {v : Value} {l : List α} {R : List (Nat × Obj)} {x : Operand} {t e : TypeId} (a : P.underlying t = some (.slice e)) (b : jK E x = v) (h : jZ e' enc k v l R) : lQ P E ⟨d, .call ⟨.builtin .len, #[x], #[t]⟩, ty, pos, af, g⟩ W (.int .i64 l.length) W := by
 obtain ⟨A, c, rfl⟩ := h.form
 exact Du a b
section
variable {α : Type} {e : TypeId} {enc : α → List Value} {k : Nat} {v : Value} {l : List α} {R : List (Nat × Obj)}
theorem jZ.nd (h : jZ e enc k v l R) : (R.map (·.1)).Nodup := by
 rcases h with ⟨rfl, rfl, rfl⟩ | ⟨g, cap, a, rfl, rfl, _⟩ <;> simp
end
end Go.Proofs.YtjjjihkifgdhgaaGreatDoor
namespace Go.Proofs.YtjjjihkifgdhgaaGreatDoor
open Go.RowKit
variable {dd : Bool}
def Bj (R : List (Nat × Obj)) (k : Nat) (p : Value) (i : Nat) : Prop := ∃ g o, R = [(g, o)] ∧ p = .pointer (some ⟨g, i * k, none⟩)
section
variable {P : Program} {E : Nat → Value} {W : World} {d : Option Nat} {ty : TypeId} {pos : String} {af : Array Edge} {g : Option (Nat × Bool)}
 {F : Nat → Prop} {w : World} {μ : km} {L : List (Nat × Obj)} {α : Type} {e' : TypeId} {enc : α → List Value} {k : Nat} {v : Value} {l : List α} {R : List (Nat × Obj)}
theorem nU {t e : TypeId} {x b : Operand} {I : IntKind} {i : Int} {x0 : α} (A : P.underlying t = some (.slice e)) (he : ∀ w, (sizeOf e).run P w = .ok k w) (G : jK E x = v) (y : jK E b = .int I i) (h : jZ e' enc k v l R) (n : 0 ≤ i) (z : l[i.toNat]? = some x0) :
  ∃ p, Bj R k p i.toNat ∧ ∀ W, lQ P E ⟨d, .indexAddr t x b, ty, pos, af, g⟩ W p W := by
 have a : i.toNat < l.length := (bF.1 z).1
 rcases h with ⟨rfl, rfl, rfl⟩ | ⟨m, cap, j, rfl, rfl, h1, J, L, M⟩
 ·simp at a
 refine ⟨.pointer (some ⟨m, i.toNat * k, none⟩), ⟨_, _, rfl, rfl⟩, fun W => ?_⟩
 show (do pure (.value (← Instr.indexAt t (jK E x) (jK E b))) : Sem Next).run P W = _
 rw [G, y]
 have u : 0 ≤ i ∧ i < (l.length : Int) := ⟨n, by omega⟩
 simp [Instr.indexAt, asIntOf, aY A, he W, u, dz]
theorem Bl (h : jZ e' enc k v l R) (hk : ∀ x, (enc x).length = k) {p : Value} {i : Nat} (hp : Bj R k p i) {x0 : α} (n : l[i]? = some x0) :
  ∃ g a cap, R = [(g, .cells a e' (0, 0))] ∧ v = .slice (some ⟨g, 0, none⟩) l.length cap ∧ l.length ≤ cap ∧ cap ≤ maxLen ∧ a.size = cap * k ∧ a.toList.take (l.length * k) = (l.map enc).flatten ∧ p = .pointer (some ⟨g, i * k, none⟩) ∧ ∀ j y, (enc x0)[j]? = some y → a[i * k + j]? = some y := by
 have d : i < l.length := (bF.1 n).1
 rcases h with ⟨rfl, rfl, rfl⟩ | ⟨u, cap, a, rfl, rfl, h1, w, z, m⟩
 ·simp at d
 obtain ⟨g2, o, t, rfl⟩ := hp
 cases t
 refine ⟨u, a, cap, rfl, rfl, h1, w, z, m, rfl, fun j y A => ?_⟩
 have := wX hk l i x0 n j y A
 rw [← m] at this
 have b : i * k + j < l.length * k := by
  have := (bF.1 this).1
  simp at this; omega
 rw [dB b] at this
 simpa using this
theorem sP {A : List (Nat × Obj)} (hH : nC μ A W) (d : ∀ q, q ∈ R → q ∈ A) (h : jZ e' enc k v l R) (hk : ∀ x, (enc x).length = k) {p : Value} {i : Nat} (hp : Bj R k p i) {x0 : α} (m : l[i]? = some x0) {t : TypeId} (g : ∀ w, (isAgg t).run P w = .ok true w) (j : ∀ w, (sizeOf t).run P w = .ok k w) : (Instr.loadAt t p).run P W = .ok (.agg (enc x0).toArray) W := by
 obtain ⟨n, a, cap, rfl, rfl, _, _, _, _, rfl, b⟩ := Bl h hk hp m
 exact CN g (enc x0) (by rw [hk]; exact j) (hH.2 _ _ (d _ (bP.2 rfl))) b
theorem DB {A : List (Nat × Obj)} (hH : nC μ A W) (d : ∀ q, q ∈ R → q ∈ A) (h : jZ e' enc k v l R) (hk : ∀ x, (enc x).length = k) {p : Value} {i : Nat} (hp : Bj R k p i) {x0 : α} (j : l[i]? = some x0) {t : TypeId} {y : Value} (m : enc x0 = [y]) (g : ∀ w, (isAgg t).run P w = .ok false w) : (Instr.loadAt t p).run P W = .ok y W := by
 obtain ⟨n, a, cap, rfl, rfl, _, _, _, _, rfl, b⟩ := Bl h hk hp j
 exact CC g (hH.2 _ _ (d _ (bP.2 rfl))) (b 0 y (by rw [m]; rfl))
theorem GI (hk : ∀ x, (enc x).length = k) : ∀ (l : List α) (i : Nat) (y : α), i < l.length → ((l.set i y).map enc).flatten = (l.map enc).flatten.take (i * k) ++ enc y ++ (l.map enc).flatten.drop (i * k + k)
 | [], i, y, h => by simp at h
 | z :: l, 0, y, h => by
  simp [hk]
 | z :: l, i + 1, y, h => by
  have := GI hk l i y (by simpa using h)
  simp only [List.set_cons_succ, bL, bN, this]
  have h1 : (i + 1) * k = (enc z).length + i * k := by rw [hk, cR]; omega
  rw [h1, gU, ev, List.drop_length_add_append]
  simp
theorem Nf {K : Value → World → Prop} (X : List (Nat × Obj)) {Y : List (Nat × Obj)} {t : TypeId} {x y : Operand} {p u : Value} {i : Nat} {x0 x1 : α} (j : ST dd F w W μ (X ++ (R ++ Y))) (h : jZ e' enc k v l R) (hk : ∀ x, (enc x).length = k) (h1 : ∀ x, ∀ u ∈ enc x, u.oneCell' = true) (hx : jK E x = p) (hy : jK E y = u) (hu : u.cells = (enc x1).toArray) (hp : Bj R k p i) (L : l[i]? = some x0) (Z : ∀ w, (sizeOf t).run P w = .ok k w) (U : ∀ W' R', ST dd F w W' μ (X ++ (R' ++ Y)) → jZ e' enc k v (l.set i x1) R' → K undef W') : ng P E ⟨d, .store t x y, ty, pos, af, g⟩ W K := by
 have G : i < l.length := (bF.1 L).1
 obtain ⟨n, a, cap, rfl, rfl, J, Q, A, T, rfl, h6⟩ := Bl h hk hp L
 have hle : i * k + k ≤ cap * k := by
  have : (i + 1) * k ≤ cap * k := cN _ (by omega)
  rwa [cR, jj] at this
 have m : i * k + k ≤ l.length * k := by
  have : (i + 1) * k ≤ l.length * k := cN _ (by omega)
  rwa [cR, jj] at this
 have b : u.cells.size = k := by rw [hu]; simp [hk]
 have hb := (j.box n (.cells a e' (0, 0)) (by simp)).1
 have hlen : l.length * k ≤ cap * k := cN _ J
 refine .inr (.inl ⟨W.setRow n (a.toList.take (i * k) ++ (enc x1) ++ a.toList.drop (i * k + k)).toArray, ?_, U _ [(n, .cells (a.toList.take (i * k) ++ (enc x1) ++ a.toList.drop (i * k + k)).toArray e' (0, 0))] (j.store _) (.inr ⟨n, cap, _, by simp, rfl, by simpa using J, Q, ?_, ?_⟩)⟩)
 ·show (do Instr.storeAt t (jK E x) (jK E y); pure .skip : Sem Next).run P W = _
  rw [hx, hy]
  have := CP P (off := i * k) u (by rw [b]; exact Z) (by rw [hu]; simpa using h1 x1) hb (by rw [b, A]; exact hle)
  simp only [bZ, this, bK, cW, b]
  rw [hu]
 ·show ((a.toList.take (i * k) ++ (enc x1) ++ a.toList.drop (i * k + k)).toArray).size = _
  have z : a.toList.length = cap * k := by simpa using A
  rw [dG, aF, aF, cZ, fH, hk, z, dK (by omega)]; omega
 ·rw [gN, GI hk l i x1 G, ← T]
  have M : (a.toList.take (l.length * k)).take (i * k) = a.toList.take (i * k) := by rw [gj]; congr 1; omega
  have O : (a.toList.take (l.length * k)).drop (i * k + k) = (a.toList.drop (i * k + k)).take (l.length * k - (i * k + k)) := by rw [ig]
  rw [M, O]
  show List.take (l.length * k) (a.toList.take (i * k) ++ enc x1 ++ a.toList.drop (i * k + k)) = _
  have z : a.toList.length = cap * k := by simpa using A
  have I : (a.toList.take (i * k) ++ enc x1).length = i * k + k := by rw [aF, cZ, hk, z, dK (by omega)]
  rw [eZ, dI (by rw [I]; exact m), I]
theorem E6 (hk : ∀ x, (enc x).length = k) : ∀ (l : List α) (i : Nat), i ≤ l.length → ((l.take i).map enc).flatten = (l.map enc).flatten.take (i * k)
 | [], i, h => by simp
 | z :: l, 0, h => by simp
 | z :: l, i + 1, h => by
  have := E6 hk l i (by simpa using h)
  simp only [List.take_succ_cons, bL, bN, this]
  rw [show (i + 1) * k = (enc z).length + i * k by rw [hk, cR]; omega, gU]
theorem EX {t e : TypeId} {x ih : Operand} {M : IntKind} {i : Int} (n : P.underlying t = some (.slice e)) (he : ∀ w, (sizeOf e).run P w = .ok k w) (p : jK E x = v) (m : jK E ih = .int M i) (h : jZ e' enc k v l R) (hk : ∀ x, (enc x).length = k) (z : 0 ≤ i) (L : i ≤ l.length) :
  ∃ u, jZ e' enc k u (l.take i.toNat) R ∧ ∀ W, lQ P E ⟨d, .slice t x none (some ih) none, ty, pos, af, g⟩ W u W := by
 have a : i.toNat ≤ l.length := by omega
 rcases h with ⟨rfl, rfl, rfl⟩ | ⟨j, cap, b, rfl, rfl, h1, A, G, I⟩
 ·have : i = 0 := by simp at L; omega
  subst this
  refine ⟨.slice none 0 0, .inl ⟨rfl, by simp, rfl⟩, fun W => ?_⟩
  show (do pure (.value (← Instr.sliceAt t (jK E x) none (some (jK E ih)) none)) : Sem Next).run P W = _
  rw [p, m]
  simp [Instr.sliceAt, Instr.slice, Instr.sliceBounds, Instr.sliceBound, asIntOf, aY n, he W]
 ·refine ⟨.slice (some ⟨j, 0, none⟩) (l.take i.toNat).length cap, .inr ⟨j, cap, b, rfl, rfl, by simp; omega, A, G, ?_⟩, fun W => ?_⟩
  ·have y : (l.take i.toNat).length = i.toNat := by rw [cZ]; omega
   have hle : i.toNat * k ≤ l.length * k := cN _ a
   rw [y, E6 hk l i.toNat a, ← I, gj, dK hle]
  ·show (do pure (.value (← Instr.sliceAt t (jK E x) none (some (jK E ih)) none)) : Sem Next).run P W = _
   rw [p, m]
   have J : 0 ≤ i ∧ i ≤ (cap : Int) := ⟨z, by omega⟩
   simp [Instr.sliceAt, Instr.slice, Instr.sliceBounds, Instr.sliceBound, asIntOf, aY n, he W, J, dz]
   omega
theorem CD {G : qe α} {t e : TypeId} {x u : Operand} {ik : IntKind} {i : Int} (ht : P.underlying t = some (.slice e)) (he : ∀ w, (sizeOf e).run P w = .ok k w) (n : jK E x = v) (U : jK E u = .int ik i) (h : Sl G k μ v l) (I : 0 ≤ i) (Y : i ≤ l.length) :
  ∃ z, (Sl G k μ z (l.drop i.toNat) ∧ ∀ B, Fr B v → Fr B z) ∧ ∀ W, lQ P E ⟨d, .slice t x (some u) none none, ty, pos, af, g⟩ W z W := by
 obtain ⟨A, c, rfl, h2, h3, J⟩ := h
 have Z : i.toNat ≤ l.length := by omega
 refine ⟨.slice (if c = i.toNat then A else A.map (·.add (i.toNat * k))) (l.drop i.toNat).length (c - i.toNat), ⟨⟨_, _, rfl, by simp; omega, by omega, fun hp => ?_⟩, fun B R b m => ?_⟩, fun W => ?_⟩
 ·have a1 : i.toNat < l.length := by simp at hp; omega
  obtain ⟨b, off, cs, T, fr, rfl, L, M⟩ := J (by omega)
  refine ⟨b, off + i.toNat * k, cs, T, fr, ?_, L, fun j x n => ?_⟩
  ·rw [bE (by omega)]; simp [dz]
  ·rw [dS] at n
   obtain ⟨ys, O, Q, p⟩ := M _ x n
   refine ⟨ys, O, Q, fun q y hy => ?_⟩
   have := p q y hy
   rw [cR] at this
   rw [show off + i.toNat * k + j * k + q = off + (i.toNat * k + j * k) + q by omega]
   exact this
 ·refine R b ?_
  cases A with
  | none => simp [Value.ownBlock] at m
  | some a =>
   split at m
   ·exact m
   ·obtain ⟨b', o', s'⟩ := a
    cases s' <;> simp [Value.ownBlock, Addr.add] at m ⊢ <;> split at m <;> exact m
 ·show (do pure (.value (← Instr.sliceAt t (jK E x) (some (jK E u)) none none)) : Sem Next).run P W = _
  rw [n, U]
  have m : 0 ≤ i ∧ i ≤ (l.length : Int) := ⟨I, Y⟩
  simp [Instr.sliceAt, Instr.slice, Instr.sliceBounds, Instr.sliceBound, asIntOf, aY ht, he W, m]
end
end Go.Proofs.YtjjjihkifgdhgaaGreatDoor
namespace Go.Proofs.YtjjjihkifgdhgaaGreatDoor
open Go.RowKit
variable {dd : Bool}
section
variable {α : Type} {e : TypeId} {enc : α → List Value} {k : Nat} {v : Value} {l : List α} {R : List (Nat × Obj)} {μ : km}
theorem jZ.one (h : jZ e enc k v l R) : v.oneCell' = true := by obtain ⟨A, c, rfl⟩ := h.form; rfl
theorem Sl.one {a : qe α} (h : Sl a k μ v l) : v.oneCell' = true := by obtain ⟨A, c, rfl⟩ := h.form; rfl
theorem Sl.isNil {d : qe α} {n c : Nat} (h : Sl d k μ (.slice none n c) l) : l = [] := by
 obtain ⟨A, j, h1, m, p, g⟩ := h
 cases h1
 rcases dZ l.length with a | a
 ·exact eb.1 a
 ·obtain ⟨b, off, cs, T, fr, i, _⟩ := g a
  cases i
theorem jZ.isNil {n c : Nat} (h : jZ e enc k (.slice none n c) l R) : l = [] := by
 rcases h with ⟨h1, rfl, rfl⟩ | ⟨g, cap, a, h1, _⟩
 ·rfl
 ·cases h1
theorem ST.TK {w W : World} {μ : km} {L1 L2 : List (Nat × Obj)} (h : ST dd kx w W μ (L1 ++ L2)) : uj dd [] L1 w W :=
 uj.JL h.ex (fun b o a => ⟨(h.box b o (cI _ a)).1, by
  rcases (h.box b o (cI _ a)).2.2 with h | h
  ·exact h
  ·exact h.elim⟩) (by have := h.nd; rw [cE] at this; exact (bX.1 this).1)
theorem ST.TQ {w W : World} {μ : km} {L0 L1 L2 : List (Nat × Obj)} (h : ST dd (keys L0) w W μ (L1 ++ L2)) : uj dd L0 L1 w W :=
 ⟨⟨h.os, h.tape, h.output, h.drawn, h.size, h.lZ⟩, fun b o a => ⟨(h.box b o (cI _ a)).1, (h.box b o (cI _ a)).2.2⟩, by have := h.nd; rw [cE] at this; exact (bX.1 this).1⟩
end
end Go.Proofs.YtjjjihkifgdhgaaGreatDoor
namespace Go.Proofs.YtjjjihkifgdhgaaGreatDoor
open Go.RowKit
variable {dd : Bool}
def lm {κ β : Type} (beq : κ → κ → Bool) (l : List (κ × β)) (k : κ) : Option β := (l.find? (fun p => beq k p.1)).map (·.2)
def nZ {κ β : Type} (beq : κ → κ → Bool) (l : List (κ × β)) (k : κ) (v : β) : List (κ × β) :=
 match l.findIdx? (fun p => beq k p.1) with
 | some i => l.set i (k, v)
 | none => l ++ [(k, v)]
structure uX {κ β : Type} (kenc : κ → Value) (vf : β → Value) (l : List (κ × β)) (es : Array MapEntry) (clock : Nat) : Prop where
 F0 : es.toList.map (fun e => (e.key, e.val)) = l.map (fun p => (kenc p.1, vf p.2))
 born : es.toList.Pairwise (fun a b => a.born < b.born)
 lt : ∀ e ∈ es.toList, e.born < clock
def lN {κ β : Type} (kenc : κ → Value) (vf : β → Value) (v : Value) (l : List (κ × β)) (R : List (Nat × Obj)) : Prop :=
 ∃ m es clock, v = .map (some m) ∧ R = [(m, .map es clock)] ∧ uX kenc vf l es clock
def wH {κ β : Type} (kenc : κ → Value) (vf : β → Value) (μ : km) (v : Value) (l : List (κ × β)) : Prop :=
 (v = .map none ∧ l = []) ∨ ∃ m es clock, v = .map (some m) ∧ μ m = some (.map es clock) ∧ uX kenc vf l es clock
theorem wH.mono {κ β : Type} {kenc : κ → Value} {vf : β → Value} {μ μ' : km} {v : Value} {l : List (κ × β)} (h : wH kenc vf μ v l) (d : kj μ μ') : wH kenc vf μ' v l := by
 rcases h with h | ⟨m, es, clock, h1, a, b⟩
 ·exact .inl h
 ·exact .inr ⟨m, es, clock, h1, d _ _ a, b⟩
theorem lN.at {κ β : Type} {kenc : κ → Value} {vf : β → Value} {μ : km} {v : Value} {l : List (κ × β)} {R : List (Nat × Obj)} (h : lN kenc vf v l R) (d : ∀ b o, (b, o) ∈ R → μ b = some o) : wH kenc vf μ v l := by
 obtain ⟨m, es, clock, rfl, rfl, a⟩ := h
 exact .inr ⟨m, es, clock, rfl, d _ _ (bP.2 rfl), a⟩
structure pu {κ : Type} (P : Program) (kt : TypeId) (kenc : κ → Value) (beq : κ → κ → Bool) : Prop where
 check : ∀ b k W, (Instr.checkKey b 10000 kt (kenc k)).run P W = .ok () W
 find : ∀ (k : κ) (l : List κ) (es : List MapEntry), es.map (·.key) = l.map kenc → ∀ W, (Instr.findKey kt (kenc k) es).run P W = .ok ((l.findIdx? (fun x => beq k x)).bind fun i => (es[i]?).map fun e => (i, e.val)) W
 eq : ∀ k x, beq k x = true → kenc x = kenc k
 bits : ∀ k, Instr.sameBits 10000 (kenc k) (kenc k) = true
section
variable {P : Program} {W : World} {κ : Type} {kt : TypeId} {kenc : κ → Value} {beq : κ → κ → Bool}
theorem Dc (a : ∀ x y W, (Op.equal kt (kenc x) (kenc y)).run P W = .ok (beq x y) W) (k : κ) : ∀ (l : List κ) (es : List MapEntry) (i : Nat), es.map (·.key) = l.map kenc →
  (Instr.findAsking kt (kenc k) es i).run P W = .ok ((l.findIdx? (fun x => beq k x)).bind fun j => (es[j]?).map fun e => (i + j, e.val)) W
 | [], [], i, h => by simp [Instr.findAsking]
 | [], _ :: _, i, h => by simp at h
 | _ :: _, [], i, h => by simp at h
 | x :: l, e :: es, i, h => by
  simp only [bL, aS] at h
  obtain ⟨h1, b⟩ := h
  simp only [Instr.findAsking, bZ, h1, a, bK, eL]
  cases d : beq k x with
  | true => simp
  | false =>
   simp only [aC, aK]
   rw [Dc a k l es (i + 1) b]
   cases l.findIdx? (fun x => beq k x) with
   | none => rfl
   | some j => simp [ev, Nat.add_comm 1 j]
theorem Lr {kind : TypeDesc} (hk : ∀ a b, Instr.sameNow kind (.agg a) b = none) (a : Array Value) : ∀ (es : List MapEntry) (i : Nat), Instr.findNow kind (.agg a) es i = if es = [] then some none else none
 | [], i => by simp [Instr.findNow]
 | e :: es, i => by simp [Instr.findNow, hk]
theorem pu.struct {enc : κ → List Value} {fs : Array Field} (p : P.underlying kt = some (.struct fs)) (n : ∀ d x y W, (Op.equalIn (d + 10) kt (.agg (enc x).toArray) (.agg (enc y).toArray)).run P W = .ok (beq x y) W) (m : ∀ b k W, (Instr.checkKey b 10000 kt (.agg (enc k).toArray)).run P W = .ok () W) (he : ∀ k x, beq k x = true → x = k) (j : ∀ k, Instr.sameBits 10000 (.agg (enc k).toArray) (.agg (enc k).toArray) = true) : pu P kt (fun x => .agg (enc x).toArray) beq where
 check := m
 find := fun k l es h W => by
  have g : ∀ x y W, (Op.equal kt (.agg (enc x).toArray) (.agg (enc y).toArray)).run P W = .ok (beq x y) W := fun x y W => n 9990 x y W
  simp only [Instr.findKey, bZ, aY p, bK]
  rw [Lr (fun a b => by cases b <;> rfl)]
  by_cases i : es = []
  ·subst i
   have : l = [] := by simpa using h.symm
   subst this
   simp
  ·rw [bE i]
   dsimp only
   rw [show Instr.findAsking kt (.agg (enc k).toArray) es = Instr.findAsking kt (.agg (enc k).toArray) es 0 from rfl, Dc g k l es 0 h]
   simp
 eq := fun k x h => by rw [he k x h]
 bits := j
theorem mf {a b : ByteArray} : kV a b = true ↔ a = b := by
 unfold kV
 rw [eX, eX]
 constructor
 ·intro h
  have h1 : a.data.toList = b.data.toList := by simpa using h
  exact fQ (Array.toList_inj.1 h1)
 ·rintro rfl
  simp
theorem EM (a b : ByteArray) : (a == b) = kV a b := by
 rw [bQ, mf]
 constructor
 ·intro h
  have h1 : (a.data == b.data) = true := h
  exact fQ (by simpa using h1)
 ·rintro rfl
  show (a.data == a.data) = true
  simp
theorem Df (k : ByteArray) : ∀ (l : List ByteArray) (es : List MapEntry) (i : Nat), es.map (·.key) = l.map Value.string →
  Instr.findNow .string (.string k) es i = some ((l.findIdx? (fun x => kV k x)).bind fun j => (es[j]?).map fun e => (i + j, e.val))
 | [], [], i, h => by simp [Instr.findNow]
 | [], _ :: _, i, h => by simp at h
 | _ :: _, [], i, h => by simp at h
 | x :: l, e :: es, i, h => by
  simp only [bL, aS] at h
  obtain ⟨h1, a⟩ := h
  simp only [Instr.findNow, h1, Instr.sameNow, EM, eL]
  cases b : kV k x with
  | true => simp
  | false =>
   simp only [aC, aK]
   rw [Df k l es (i + 1) a]
   cases l.findIdx? (fun x => kV k x) with
   | none => rfl
   | some j => simp [ev, Nat.add_comm 1 j]
theorem zb (a : P.underlying kt = some .string) (n : Nat) (b : Bool) (k : ByteArray) (W : World) : (Instr.checkKey b (n + 1) kt (.string k)).run P W = .ok () W := by
 simp [Instr.checkKey, aY a]
theorem pu.string (a : P.underlying kt = some .string) : pu P kt Value.string kV where
 check := fun b k W => zb a 9999 b k W
 find := fun k l es h W => by
  simp only [Instr.findKey, bZ, aY a, bK]
  have := Df k l es 0 h
  rw [this]
  simp
 eq := fun k x h => by rw [mf.1 h]
 bits := fun k => by simp only [Instr.sameBits]; rw [EM]; exact mf.2 rfl
variable {β : Type} {vf : β → Value} {E : Nat → Value} {d : Option Nat} {ty : TypeId} {pos : String} {af : Array Edge} {g : Option (Nat × Bool)} {F : Nat → Prop} {w : World} {μ : km} {L : List (Nat × Obj)}
theorem uX.keys {l : List (κ × β)} {es : Array MapEntry} {clock : Nat} (h : uX kenc vf l es clock) : es.toList.map (·.key) = (l.map (·.1)).map kenc := by
 have := bA (List.map Prod.fst) h.F0
 simpa [fA] using this
theorem uX.length {l : List (κ × β)} {es : Array MapEntry} {clock : Nat} (h : uX kenc vf l es clock) : es.size = l.length := by
 have := bA List.length h.F0
 simpa using this
theorem uX.get {l : List (κ × β)} {es : Array MapEntry} {clock : Nat} (h : uX kenc vf l es clock) (k : κ) :
  (((l.map (·.1)).findIdx? (fun x => beq k x)).bind fun i => (es.toList[i]?).map fun e => (i, e.val)) = (l.findIdx? (fun p => beq k p.1)).bind fun i => (l[i]?).map fun p => (i, vf p.2) := by
 rw [gk]
 show ((l.findIdx? (fun p => beq k p.1)).bind _) = _
 congr 1
 funext i
 have := bA (fun q => q[i]?) h.F0
 simp only [eB] at this
 cases h1 : es.toList[i]? with
 | none => rw [h1] at this; cases a : l[i]? with
  | none => rfl
  | some p => rw [a] at this; cases this
 | some e => rw [h1] at this; cases a : l[i]? with
  | none => rw [a] at this; cases this
  | some p => rw [a] at this; simp at this; simp [this.2]
theorem yt (l : List (κ × β)) (k : κ) : lm beq l k = (l.findIdx? (fun p => beq k p.1)).bind fun i => (l[i]?).map (·.2) := by
 induction l with
 | nil => rfl
 | cons p l ih =>
  simp only [lm, fp, eL] at ih ⊢
  cases beq k p.1 with
  | true => rfl
  | false =>
   simp only [aC, aK]
   rw [ih]
   cases l.findIdx? (fun p => beq k p.1) <;> simp
theorem J3 {t e : TypeId} {m x : Operand} {y z : Value} {l : List (κ × β)} {k : κ} (K : pu P kt kenc beq) (u : P.underlying t = some (.map kt e)) (b : ∀ w, (zeroValue e).run P w = .ok z w) (hm : jK E m = y) (J : jK E x = kenc k) (G : wH kenc vf (hp W) y l) :
  lQ P E ⟨d, .lookup t m x false, ty, pos, af, g⟩ W (((lm beq l k).map vf).getD z) W := by
 show (do pure (.value (← Instr.lookup t (jK E m) (jK E x) false)) : Sem Next).run P W = _
 rw [hm, J]
 rcases G with ⟨rfl, rfl⟩ | ⟨v, es, clock, rfl, I, h⟩
 ·have := K.find k [] [] rfl W
  simp [Instr.lookup, aY u, K.check, this, b W, lm]
 ·have a : W.heap[v]? = some (.map es clock) := I
  have A : (getObj v : Sem Obj).run P W = .ok (.map es clock) W := by simp [getObj, Sem.run, a]
  have j := K.find k _ _ h.keys W
  rw [h.get k] at j
  simp only [Instr.lookup, bZ, aY u, bK, A, cW, K.check, j, yt]
  cases L : l.findIdx? (fun p => beq k p.1) with
  | none => simp [b W]
  | some i =>
   cases n : l[i]? with
   | none => simp [n, b W]
   | some p => simp [n]
theorem rT {l : List (κ × β)} {k : κ} {i : Nat} (h : l.findIdx? (fun p => beq k p.1) = some i) : ∃ p, l[i]? = some p ∧ beq k p.1 = true := by
 rw [ei] at h
 obtain ⟨h1, a, _⟩ := h
 exact ⟨l[i], cX h1, a⟩
theorem uX.put {l : List (κ × β)} {es : Array MapEntry} {clock : Nat} (h : uX kenc vf l es clock) (k : κ) (v : β) :
  match l.findIdx? (fun p => beq k p.1) with
  | some i => uX kenc vf (l.set i (k, v)) (es.modify i fun e => { e with key := kenc k, val := vf v }) clock
  | none => uX kenc vf (l ++ [(k, v)]) (es.push { key := kenc k, val := vf v, born := clock }) (clock + 1) := by
 cases u : l.findIdx? (fun p => beq k p.1) with
 | none =>
  refine ⟨?_, ?_, ?_⟩
  ·simp [h.F0]
  ·simp only [Array.toList_push, cU]
   exact ⟨h.born, by simp, fun a ha b t => by simp at t; subst t; exact h.lt a ha⟩
  ·intro e he
   simp at he
   rcases he with he | rfl
   ·exact Nat.lt_succ_of_lt (h.lt e (by simpa using he))
   ·exact bG _
 | some i =>
  obtain ⟨p, hp, _⟩ := rT u
  have y : i < l.length := (bF.1 hp).1
  have d : (es.modify i fun e => { e with key := kenc k, val := vf v }).toList.map (·.born) = es.toList.map (·.born) := by
   apply eA
   intro j
   simp only [eB, dN, dM]
   split
   ·cases es[j]? <;> simp
   ·rfl
  refine ⟨?_, ?_, ?_⟩
  ·apply eA
   intro j
   have m := bA (fun q => q[j]?) h.F0
   simp only [eB, dN] at m
   simp only [eB, dN, dM, eQ]
   by_cases g : i = j
   ·subst g
    simp only [aU]
    rw [bB y]
    cases w : es[i]? with
    | none => rw [w, hp] at m; cases m
    | some e => rfl
   ·rw [bE g, bE g]; exact m
  ·have := h.born
   rw [← fB (f := fun e : MapEntry => e.born) (R := (· < ·))] at this ⊢
   rw [d]; exact this
  ·intro e he
   have : e.born ∈ es.toList.map (·.born) := by rw [← d]; exact bJ.2 ⟨e, he, rfl⟩
   obtain ⟨e', n, x⟩ := bJ.1 this
   rw [← x]; exact h.lt e' n
theorem yQ {W : World} {r : Nat} {es : Array MapEntry} {c : Nat} (b : W.heap[r]? = some (.map es c)) (a : Obj) : (setObj r a).run P W = .ok () (ChangeMaps.setBlock W r a) := by
 simp [setObj, Sem.run, b, ChangeMaps.setBlock]
theorem ST.setBlock {A B : List (Nat × Obj)} {b : Nat} {o : Obj} (h : ST dd F w W μ (A ++ (b, o) :: B)) (d : Obj) : ST dd F w (ChangeMaps.setBlock W b d) μ (A ++ (b, d) :: B) := by
 have g := (h.box b o (by simp)).1
 have a := nV g
 refine h.put ⟨rfl, rfl, rfl, aX _, by simp [ChangeMaps.setBlock]⟩ (fun k hk => ?_) ?_
 ·simp only [ChangeMaps.setBlock]
  rw [Array.getElem?_setIfInBounds_ne (fun e => hk e.symm)]
 ·simp only [ChangeMaps.setBlock]
  rw [Array.getElem?_setIfInBounds_self_of_lt a]
theorem CA {M : Value → World → Prop} (X : List (Nat × Obj)) {Y R : List (Nat × Obj)} {t e : TypeId} {m x y : Operand} {L : Value} {l : List (κ × β)} {k : κ} {v : β} (K : pu P kt kenc beq) (T : P.underlying t = some (.map kt e)) (n : ST dd F w W μ (X ++ (R ++ Y))) (h : lN kenc vf L l R) (hm : jK E m = L) (Z : jK E x = kenc k) (hy : jK E y = vf v) (Q : ∀ W' R', ST dd F w W' μ (X ++ (R' ++ Y)) → lN kenc vf L (nZ beq l k v) R' → M undef W') : ng P E ⟨d, .mapUpdate t m x y, ty, pos, af, g⟩ W M := by
 obtain ⟨b, es, clock, rfl, rfl, G⟩ := h
 have I : W.heap[b]? = some (.map es clock) := (n.box b (.map es clock) (by simp)).1
 have O : (getObj b : Sem Obj).run P W = .ok (.map es clock) W := by simp [getObj, Sem.run, I]
 have u := K.find k _ _ G.keys W
 rw [G.get k] at u
 have a := G.put (beq := beq) k v
 have j : ∀ W', (Instr.mapUpdate t (.map (some b)) (kenc k) (vf v)).run P W = .ok () W' → (execOp (jK E) ⟨d, .mapUpdate t m x y, ty, pos, af, g⟩).run P W = .ok .skip W' := by
  intro W' U
  show (do Instr.mapUpdate t (jK E m) (jK E x) (jK E y); pure .skip : Sem Next).run P W = _
  rw [hm, Z, hy]
  simp [U]
 cases z : l.findIdx? (fun p => beq k p.1) with
 | none =>
  rw [z] at u a
  refine .inr (.inl ⟨ChangeMaps.setBlock W b (.map (es.push { key := kenc k, val := vf v, born := clock }) (clock + 1)), j _ ?_, Q _ [(b, _)] (n.setBlock _) ⟨b, _, _, rfl, rfl, ?_⟩⟩)
  ·simp [Instr.mapUpdate, aY T, O, K.check, u, yQ I]
  ·rw [nZ, z]; exact a
 | some i =>
  obtain ⟨p, hp, J⟩ := rT z
  rw [z] at u a
  simp only [aA, hp, ep] at u
  have A : ((es[i]?).map (·.key)).getD (kenc k) = kenc k := by
   have := bA (fun q => q[i]?) G.keys
   simp only [eB, hp, ep, dN] at this
   rw [this]
   simp [K.eq k p.1 J]
  refine .inr (.inl ⟨ChangeMaps.setBlock W b (.map (es.modify i fun e => { e with key := kenc k, val := vf v }) clock), j _ ?_, Q _ [(b, _)] (n.setBlock _) ⟨b, _, _, rfl, rfl, ?_⟩⟩)
  ·simp only [Instr.mapUpdate, bZ, aY T, O, K.check, u, bK, A, Instr.keyThatStays, K.bits, aU, cW]
   exact yQ I _
  ·rw [nZ, z]; exact a
theorem I5 {b : Value → World → Prop} {t : TypeId} (kenc : κ → Value) (vf : β → Value) (a : ST dd F w W μ L) (h : ∀ W' v R, ST dd F w W' μ (R ++ L) → lN kenc vf v [] R → b v W') : ng P E ⟨d, .makeMap t none, ty, pos, af, g⟩ W b :=
 .inl ⟨.map (some W.heap.size), W.alloc (.map #[] 0), by
   show (do pure (.value (← Instr.makeMap t none)) : Sem Next).run P W = _
   simp [Instr.makeMap, newObj, Sem.run], h _ _ [(W.heap.size, .map #[] 0)] (a.alloc _) ⟨_, _, _, rfl, rfl, ⟨rfl, by simp, by simp⟩⟩⟩
end
end Go.Proofs.YtjjjihkifgdhgaaGreatDoor
namespace Go.Proofs.YtjjjihkifgdhgaaGreatDoor
open Go.RowKit
variable {dd : Bool}
open Classical in
noncomputable def Fm {α β : Type} (l : List α) (f : List α → Option β) : Option β :=
 if h : ∃ r, ∀ o, o.Perm l → f o = some r then some h.choose else none
theorem Hl {α β : Type} {l : List α} {f : List α → Option β} {r : β} (h : ∀ o, o.Perm l → f o = some r) : Fm l f = some r := by
 have a : ∃ r, ∀ o, o.Perm l → f o = some r := ⟨r, h⟩
 unfold Fm
 rw [dif_pos a]
 have h1 := a.choose_spec l (.refl l)
 rw [h l (.refl l)] at h1
 exact h1.symm
end Go.Proofs.YtjjjihkifgdhgaaGreatDoor
namespace Go.Proofs.YtjjjihkifgdhgaaGreatDoor
open Go.RowKit
variable {dd : Bool}
def KB {α β : Type} (P : Program) (fv : Value) (μ : km) (a : α → List Value) (b : β → Value) (pm : α → Option β) : Prop :=
 ∃ f caps, fv = .func (.func f) #[] caps ∧ (∀ args w, (callFunc f args).run P w = .ok (.enter f args) w) ∧ ∀ W x r, kj μ (hp W) → pm x = some r → jV true P f (a x ++ caps.toList) W (b r)
def tF {α β : Type} (P : Program) (fv : Value) (μ : km) (a : α → List Value) (b : β → Value) (pm : α → Option β) : Prop :=
 ∃ f first caps, fv = .func (.func f) first caps ∧ (∀ args w, (callFunc f args).run P w = .ok (.enter f args) w) ∧ ∀ W x r, kj μ (hp W) → pm x = some r → jV false P f (first.toList ++ (a x ++ caps.toList)) W (b r)
theorem tF.form {α β : Type} {P : Program} {fv : Value} {μ : km} {d : α → List Value} {g : β → Value} {pm : α → Option β} (h : tF P fv μ d g pm) : ∃ f a b, fv = .func f a b := let ⟨f, a, b, h, _⟩ := h; ⟨_, a, b, h⟩
section
variable {P : Program} {W : World} {E : Nat → Value} {d : Option Nat} {ty : TypeId} {pos : String} {af : Array Edge} {g : Option (Nat × Bool)} {F : Nat → Prop} {w : World} {μ μ0 : km} {L : List (Nat × Obj)}
theorem tF.mono {α β : Type} {fv : Value} {a : α → List Value} {b : β → Value} {pm : α → Option β} (h : tF P fv μ a b pm) (i : kj μ μ0) : tF P fv μ0 a b pm := by
 obtain ⟨f, first, caps, h1, d, g⟩ := h
 exact ⟨f, first, caps, h1, d, fun W x r h => g W x r (i.trans h)⟩
theorem La {α β : Type} {K : Value → World → Prop} {fv : Value} {b : α → List Value} {k : β → Value} {pm : α → Option β} {i : Operand} {ax : Array Operand} {ats : Array TypeId} (x : α) {r : β} (a : ST false F w W μ L) (t : tF P fv μ0 b k pm) (v : kj μ0 μ) (u : jK E i = fv) (ha : ax.map (jK E) ++ (#[] : Array Value) = (b x).toArray) (hm : pm x = some r) (h : ∀ W', ST false F w W' μ L → K (k r) W') : ng P E ⟨d, .call ⟨.value i, ax, ats⟩, ty, pos, af, g⟩ W K := by
 obtain ⟨f, first, caps, rfl, l, m⟩ := t
 have j : ax.map (jK E) = (b x).toArray := by simpa using ha
 refine .inr (.inr ⟨f, (first.toList ++ (b x ++ caps.toList)).toArray, ?_, cV (m W x r (v.trans a.jB) hm) (fun _ _ ⟨n, p⟩ => ⟨_, n, h _ (a.HC p)⟩)⟩)
 show (do let d ← resolve (jK E) ⟨.value i, ax, ats⟩ ty; invoke d.target d.args : Sem Next).run P W = _
 simp only [resolve, u, Deferred.ofValue, bZ, cW, bK, invoke, j, l]
 congr 2
 simp
end
end Go.Proofs.YtjjjihkifgdhgaaGreatDoor
namespace Go.Proofs.YtjjjihkifgdhgaaGreatDoor
open Go.RowKit
variable {dd : Bool}
def CK (A : List (Nat × Obj)) : km := fun b => (A.find? (fun p => p.1 == b)).map (·.2)
theorem lR {A : List (Nat × Obj)} {W : World} (h : ∀ b o, (b, o) ∈ A → W.heap[b]? = some o) : ∀ b o, CK A b = some o → W.heap[b]? = some o := fun b o a => by
 unfold CK at a
 cases d : A.find? (fun p => p.1 == b) with
 | none => rw [d] at a; cases a
 | some p =>
  rw [d] at a
  cases a
  have h1 := List.mem_of_find?_eq_some d
  have g := List.find?_some d
  simp at g
  subst g
  exact h _ _ h1
theorem At.of {M : km} {b : Nat} {cs : Array Value} {T : TypeId} {fr : Nat × Nat} (h : M b = some (.cells cs T fr)) (ys : List Value) (d : cs.toList = ys) : At M (.pointer (some ⟨b, 0, none⟩)) ys :=
 ⟨b, 0, cs, T, fr, rfl, h, fun j y a => by subst d; simpa using a⟩
section
variable {F : Nat → Prop} {w W W' : World} {μ μ' : km} {L L0 L1 L2 : List (Nat × Obj)}
theorem ST.Mz (h : ST dd F w W μ L) (a : L.Perm (L0 ++ L2)) : ∀ b o, (b, o) ∈ L2 → uK W L0 b = some o := fun b o d => by
 have h1 := (h.perm a).at_ (dU _ d)
 unfold uK
 rw [bE (FP (h.perm a).nd d)]
 exact h1
theorem ST.held (h : ST dd F w W μ L) (a : L.Perm (L0 ++ L2)) : Fl L0 W := fun b o d => ((h.perm a).box b o (cI _ d)).1
theorem ST.Sh (h : ST dd F w W μ L) (a : L.Perm (L0 ++ L2)) : (L0.map (·.1)).Nodup := by
 have := (h.perm a).nd
 rw [cE] at this
 exact (bX.1 this).1
theorem ST.Te (h : ST dd F w W μ L) (a : L.Perm (L0 ++ L2)) : kj μ (uK W L0) := (h.perm a).kR (fun _ hp => cI _ hp)
end
section
variable {P : Program} {E : Nat → Value} {W : World} {d : Option Nat} {ty : TypeId} {pos : String} {af : Array Edge} {g : Option (Nat × Bool)}
 {F : Nat → Prop} {w : World} {μ : km} {L : List (Nat × Obj)}
theorem Re {K : Value → World → Prop} {K' : Value → List (Nat × Obj) → World → Prop} {f : FuncId} {fv : Operand} {ax : Array Operand} {ats : Array TypeId} {caps : Array Value} {args : List Value} (L0 L2 : List (Nat × Obj)) (a : ST dd F w W μ L) (i : L.Perm (L0 ++ L2)) (n : jK E fv = .func (.func f) #[] caps) (he : ∀ args w, (callFunc f args).run P w = .ok (.enter f args) w) (ha : ax.map (jK E) ++ (#[] : Array Value) = args.toArray) (m : Fl L0 W → (L0.map (·.1)).Nodup → kj μ (uK W L0) → (∀ b o, (b, o) ∈ L2 → uK W L0 b = some o) → kY dd P f (args ++ caps.toList) W L0 K') (h : ∀ W' v μ' L1, ST dd F w W' μ' (L1 ++ L2) → kj μ μ' → Lo F w μ μ' → (∀ b, W.heap.size ≤ b → ∀ o, uK W' L1 b = some o → μ' b = some o) → K' v L1 W' → K v W') : ng P E ⟨d, .call ⟨.value fv, ax, ats⟩, ty, pos, af, g⟩ W K := by
 have j : ax.map (jK E) = args.toArray := by simpa using ha
 refine CX (args := (args ++ caps.toList).toArray) n he (by rw [j]; simp) (cV (m (a.held i) (a.Sh i) (a.Te i) (a.Mz i)) (fun _ W' ⟨v, L1, h1, k, l⟩ => ⟨v, h1, h W' v _ L1 ((a.perm i).back k) ((a.perm i).I6 W' L1) ((a.perm i).KP W' L1) ?_ l⟩))
 intro b t o p
 unfold Ca
 rw [bE (by omega)]
 exact p
theorem Ru {K : Value → World → Prop} {f : FuncId} {fv : Operand} {ax : Array Operand} {ats : Array TypeId} {caps : Array Value} {args : List Value} {v : Value} (a : ST dd F w W μ L) (l : jK E fv = .func (.func f) #[] caps) (he : ∀ args w, (callFunc f args).run P w = .ok (.enter f args) w) (ha : ax.map (jK E) ++ (#[] : Array Value) = args.toArray) (k : jV dd P f (args ++ caps.toList) W v) (h : ∀ W', ST dd F w W' μ L → K v W') : ng P E ⟨d, .call ⟨.value fv, ax, ats⟩, ty, pos, af, g⟩ W K := by
 have b : ax.map (jK E) = args.toArray := by simpa using ha
 exact CX (args := (args ++ caps.toList).toArray) l he (by rw [b]; simp) (cV k (fun _ _ ⟨i, j⟩ => ⟨_, i, h _ (a.HC j)⟩))
theorem Sl.lift {α : Type} {enc : α → List Value} {k : Nat} {M μ' : km} {B : Nat} {v : Value} {l : List α} (h : Sl (Pl enc) k M v l) (p : Fr B v) (n : ∀ b, B ≤ b → ∀ o, M b = some o → μ' b = some o) : Sl (Pl enc) k μ' v l := by
 obtain ⟨A, c, h1, d, g, i⟩ := h
 refine ⟨A, c, h1, d, g, fun t => ?_⟩
 obtain ⟨b, off, cs, T, fr, a, j, m⟩ := i t
 exact ⟨b, off, cs, T, fr, a, n b (p b (by rw [h1, a]; rfl)) _ j, m⟩
theorem GK {t : TypeId} (dd : Nat) {s u : Array TypeId} {b : Bool} (d : P.underlying t = some (.func s u b)) (f : Fn) (a c : Array Value) (W : World) : (Op.equalIn (dd + 1) t (.func f a c) .nilFunc).run P W = .ok false W := by
 simp [Op.equalIn, aY d]
end
def Ah {κ β : Type} (beq : κ → κ → Bool) (l : List (κ × β)) (k : κ) (z : β) : β := (lm beq l k).getD z
section
variable {P : Program} {W : World} {κ β : Type} {kt : TypeId} {kenc : κ → Value} {beq : κ → κ → Bool} {vf : β → Value} {E : Nat → Value} {d : Option Nat} {ty : TypeId} {pos : String} {af : Array Edge} {g : Option (Nat × Bool)} {F : Nat → Prop} {w : World} {μ : km} {L R : List (Nat × Obj)} {v : Value} {left : List (κ × β)}
theorem Am {t e : TypeId} {m x : Operand} {a : Value} {l : List (κ × β)} {k : κ} {z : β} (K : pu P kt kenc beq) (i : P.underlying t = some (.map kt e)) (n : ∀ w, (zeroValue e).run P w = .ok (vf z) w) (hm : jK E m = a) (j : jK E x = kenc k) (b : wH kenc vf (hp W) a l) :
  lQ P E ⟨d, .lookup t m x false, ty, pos, af, g⟩ W (vf (Ah beq l k z)) W := by
 have := J3 (d := d) (ty := ty) (pos := pos) (af := af) (g := g) K i n hm j b
 rw [Ah]
 cases h : lm beq l k with
 | none => rw [h] at this; exact this
 | some y => rw [h] at this; exact this
theorem lN.one {a : Value} {l : List (κ × β)} (h : lN kenc vf a l R) : a.oneCell' = true := by obtain ⟨m, es, clock, rfl, _⟩ := h; rfl
theorem lN.form {a : Value} {l : List (κ × β)} (h : lN kenc vf a l R) : ∃ m, a = .map (some m) := by obtain ⟨m, es, clock, rfl, _⟩ := h; exact ⟨m, rfl⟩
theorem lN.nd {a : Value} {l : List (κ × β)} (h : lN kenc vf a l R) : (R.map (·.1)).Nodup := by obtain ⟨m, es, clock, rfl, rfl, _⟩ := h; simp
end
def oy {α : Type} (l : List α) (i : Nat) (z : α) : List α := l.take i ++ List.replicate (l.length - i) z
theorem vX {α : Type} (l : List α) (i : Nat) (z : α) (h : i ≤ l.length) : (oy l i z).length = l.length := by simp [oy]; omega
theorem GD {α : Type} (l : List α) (i : Nat) (z : α) (h : i ≤ l.length) : (oy l i z).take i = l.take i := by
 simp only [oy]
 rw [eZ, dI (by simp; omega)]
 simp; omega
end Go.Proofs.YtjjjihkifgdhgaaGreatDoor
namespace Go.Proofs.YtjjjihkifgdhgaaGreatDoor
open Go.RowKit
theorem Jo {P : Program} {cs : Array Value} {b : Bool} {n : Nat} {W : World} : ∀ (l : List Field),
  (∀ f ∈ l, f.name ≠ "_" → ∃ v, (part f.type cs f.offset).run P W = .ok v W ∧ (Instr.checkKey b n f.type v).run P W = .ok () W) →
  ((forIn l PUnit.unit fun f (_ : PUnit) => do
   if f.name ≠ "_" then Instr.checkKey b n f.type (← part f.type cs f.offset)
   pure (ForInStep.yield PUnit.unit)) : Sem PUnit).run P W = .ok PUnit.unit W
 | [], _ => by simp
 | f :: l, h => by
  have ih := Jo l (fun f g => h f (eS _ g))
  simp only [List.forIn_cons, bZ]
  by_cases a : f.name ≠ "_"
  ·obtain ⟨v, h1, d⟩ := h f (by simp) a
   simp only [bB a, bZ, h1, bK, d, cW]
   exact ih
  ·simp only [bE a, bZ, cW, bK]
   exact ih
theorem HU {P : Program} {kt : TypeId} {fs : Array Field} {l : List Field} {cs : Array Value} {b : Bool} {n : Nat} {W : World} (d : P.underlying kt = some (.struct fs)) (a : fs.toList = l) (h : ∀ f ∈ l, f.name ≠ "_" → ∃ v, (part f.type cs f.offset).run P W = .ok v W ∧ (Instr.checkKey b n f.type v).run P W = .ok () W) : (Instr.checkKey b (n + 1) kt (.agg cs)).run P W = .ok () W := by
 obtain ⟨fs⟩ := fs
 subst a
 simp only [Instr.checkKey, bZ, aY d, bK, List.forIn_toArray]
 have := Jo (P := P) (cs := cs) (b := b) (n := n) (W := W) fs h
 simp only [bZ] at this
 first | rw [this]; rfl | simpa using this
variable {dd : Bool}
def sf (b : Bool) : Option Unit := if b = true then some () else none
theorem J5 {b : Bool} {u : Unit} (h : sf b = some u) : b = true := by
 unfold sf at h; split at h
 ·assumption
 ·cases h
theorem vL {a c : Int} {u : Unit} (h : sf (decide (0 ≤ a) && decide (a ≤ c)) = some u) : 0 ≤ a := by have := J5 h; simp at this; exact this.1
theorem vE {a c : Int} {u : Unit} (h : sf (decide (0 ≤ a) && decide (a ≤ c)) = some u) : a ≤ c := by have := J5 h; simp at this; exact this.2
def AZ (k : Nat) (v : Value) (i : Nat) (u : Value) : Prop := ∃ A n c A' a, v = .slice A n c ∧ u = .slice A' (n - i) a ∧ i ≤ n ∧ (i < n → ∃ b o, A = some ⟨b, o, none⟩ ∧ A' = some ⟨b, o + i * k, none⟩)
section
variable {P : Program} {E : Nat → Value} {W : World} {d : Option Nat} {ty : TypeId} {pos : String} {af : Array Edge} {g : Option (Nat × Bool)}
 {F : Nat → Prop} {w : World} {μ : km} {L : List (Nat × Obj)} {α : Type} {e' : TypeId} {enc : α → List Value} {k : Nat} {v : Value} {l : List α} {R : List (Nat × Obj)}
theorem Ac {t e : TypeId} {x a : Operand} {I : IntKind} {i : Int} (n : P.underlying t = some (.slice e)) (he : ∀ w, (sizeOf e).run P w = .ok k w) (p : jK E x = v) (j : jK E a = .int I i) (h : jZ e' enc k v l R) (z : 0 ≤ i) (m : i ≤ l.length) :
  ∃ u, AZ k v i.toNat u ∧ ∀ W, lQ P E ⟨d, .slice t x (some a) none none, ty, pos, af, g⟩ W u W := by
 rcases h with ⟨rfl, rfl, rfl⟩ | ⟨b, cap, y, rfl, rfl, h1, J, L, M⟩
 ·have : i = 0 := by simp at m; omega
  subst this
  refine ⟨.slice none 0 0, ⟨none, 0, 0, none, 0, rfl, rfl, aX _, fun h => absurd h (by simp)⟩, fun W => ?_⟩
  show (do pure (.value (← Instr.sliceAt t (jK E x) (some (jK E a)) none none)) : Sem Next).run P W = _
  rw [p, j]
  simp [Instr.sliceAt, Instr.slice, Instr.sliceBounds, Instr.sliceBound, asIntOf, aY n, he W]
 ·refine ⟨.slice (some (if cap = i.toNat then ⟨b, 0, none⟩ else (Addr.add ⟨b, 0, none⟩ (i.toNat * k)))) (l.length - i.toNat) (cap - i.toNat), ⟨_, _, _, _, _, rfl, rfl, by omega, fun G => ⟨b, 0, rfl, ?_⟩⟩, fun W => ?_⟩
  ·rw [bE (by omega)]; simp [dz]
  ·show (do pure (.value (← Instr.sliceAt t (jK E x) (some (jK E a)) none none)) : Sem Next).run P W = _
   rw [p, j]
   have A : 0 ≤ i ∧ i ≤ (l.length : Int) := ⟨z, m⟩
   simp [Instr.sliceAt, Instr.slice, Instr.sliceBounds, Instr.sliceBound, asIntOf, aY n, he W, A]
   split <;> rfl
theorem BG {i j : Nat} {x0 : α} (h : (l.drop i)[j]? = some x0) : l[i + j]? = some x0 := by rwa [dS] at h
theorem I8 {t e : TypeId} {x : Operand} {u : Value} {i : Nat} (j : P.underlying t = some (.slice e)) (m : jK E x = u) (hu : AZ k v i u) (h : jZ e' enc k v l R) : lQ P E ⟨d, .call ⟨.builtin .len, #[x], #[t]⟩, ty, pos, af, g⟩ W (.int .i64 ((l.length - i : Nat) : Int)) W := by
 obtain ⟨A, n, c, A', p, h1, b, y, _⟩ := hu
 subst b
 have : n = l.length := by
  rcases h with ⟨rfl, rfl, rfl⟩ | ⟨w, cap, a, rfl, rfl, _⟩
  ·cases h1; rfl
  ·cases h1; rfl
 subst this
 exact Du j m
theorem Ak {t e : TypeId} {x m : Operand} {Y : IntKind} {i : Int} {x0 : α} {u : Value} {o : Nat} (T : P.underlying t = some (.slice e)) (he : ∀ w, (sizeOf e).run P w = .ok k w) (U : jK E x = u) (O : jK E m = .int Y i) (h : jZ e' enc k v l R) (hu : AZ k v o u) (J : 0 ≤ i) (Q : (l.drop o)[i.toNat]? = some x0) :
  ∃ p, Bj R k p (o + i.toNat) ∧ ∀ W, lQ P E ⟨d, .indexAddr t x m, ty, pos, af, g⟩ W p W := by
 have a := BG Q
 have j : o + i.toNat < l.length := (bF.1 a).1
 rcases h with ⟨rfl, rfl, rfl⟩ | ⟨I, cap, y, rfl, rfl, h1, h2, h3, h4⟩
 ·simp at j
 obtain ⟨A, n, c, A', Z, z, rfl, h7, L⟩ := hu
 cases z
 obtain ⟨b, oo, G, rfl⟩ := L (by omega)
 cases G
 refine ⟨.pointer (some ⟨I, (o + i.toNat) * k, none⟩), ⟨_, _, rfl, rfl⟩, fun W => ?_⟩
 show (do pure (.value (← Instr.indexAt t (jK E x) (jK E m))) : Sem Next).run P W = _
 rw [U, O]
 have M : 0 ≤ i ∧ i < ((l.length - o : Nat) : Int) := ⟨J, by omega⟩
 simp [Instr.indexAt, asIntOf, aY T, he W, M, dz, cR]
theorem IF (ys : List Value) (m : Nat) : (Builtin.zeroCells ys.toArray m).toList = (List.replicate m ys).flatten := by
 unfold Builtin.zeroCells
 simp only [Array.toList_map, Array.toList_range, dG]
 rcases dZ ys.length with a | a
 ·have : ys = [] := eb.1 a
  subst this
  simp
 apply eA
 intro q
 by_cases d : q < m * ys.length
 ·have h1 : q / ys.length < m := (gE a).2 d
  have b : q % ys.length < ys.length := Nat.mod_lt _ a
  have := wX (enc := fun _ : Unit => ys) (fun _ => rfl) (List.replicate m ()) (q / ys.length) () (by simp [h1]) (q % ys.length) ys[q % ys.length] (by simp [b])
  rw [Nat.div_add_mod' q ys.length] at this
  rw [List.map_replicate] at this
  rw [this]
  simp [d, b]
 ·rw [fz (by simp; omega), fz (by simp; omega)]
theorem LH {K : Value → World → Prop} (z : α) (X : List (Nat × Obj)) {Y : List (Nat × Obj)} {t e : TypeId} {x : Operand} {u zv : Value} {i : Nat} (p : ST dd F w W μ (X ++ (R ++ Y))) (h : jZ e' enc k v l R) (hk : ∀ x, (enc x).length = k) (h1 : ∀ x, ∀ u ∈ enc x, u.oneCell' = true) (U : P.underlying t = some (.slice e)) (hz : ∀ w, (zeroValue e).run P w = .ok zv w) (hu : AZ k v i u) (hc : zv.cells = (enc z).toArray) (hx : jK E x = u) (Q : ∀ W' R', ST dd F w W' μ (X ++ (R' ++ Y)) → jZ e' enc k v (oy l i z) R' → K (.tuple #[]) W') : ng P E ⟨d, .call ⟨.builtin .clear, #[x], #[t]⟩, ty, pos, af, g⟩ W K := by
 have j : ∀ (W' : World), (Builtin.clear_ #[t] ty #[u]).run P W = .ok (.tuple #[]) W' → (execOp (jK E) ⟨d, .call ⟨.builtin .clear, #[x], #[t]⟩, ty, pos, af, g⟩).run P W = .ok (.value (.tuple #[])) W' := by
  intro W' hV
  show (do let d ← resolve (jK E) ⟨.builtin .clear, #[x], #[t]⟩ ty; invoke d.target d.args : Sem Next).run P W = _
  simp [resolve, invoke, builtin, hx, hV]
 obtain ⟨A, n, c, A', c', e1, rfl, J, h8⟩ := hu
 rcases h with ⟨rfl, rfl, rfl⟩ | ⟨G, cap, a, rfl, rfl, q1, q2, M, q4⟩
 ·cases e1
  refine .inl ⟨_, W, j W ?_, Q W [] p (by simpa [oy] using jZ.nil e' enc k)⟩
  simp only [Builtin.clear_, Nat.zero_sub]
  cases A' <;> simp [aY U]
 ·cases e1
  by_cases hi : i < l.length
  ·obtain ⟨b, o, e2, rfl⟩ := h8 hi
   cases e2
   have a1 : ∀ m, (Builtin.zeroCells zv.cells m).toList = (List.replicate m (enc z)).flatten := by
    intro m
    rw [hc]; exact IF _ _
   have hb := (p.box G (.cells a e' (0, 0)) (by simp)).1
   have hle : i * k + (l.length - i) * k = l.length * k := by rw [← cR]; congr 1; omega
   have hlen : l.length * k ≤ c * k := cN _ q1
   have y : ((List.replicate (l.length - i) (enc z)).flatten).length = (l.length - i) * k := by simp [hk]
   have I : ∀ v ∈ (List.replicate (l.length - i) (enc z)).flatten, v.oneCell' = true := by
    intro v L
    obtain ⟨ys, Z, L⟩ := iS.1 L
    rw [(List.mem_replicate.1 Z).2] at L
    exact h1 z v L
   have hs := iD (P := P) G (i * k) e' ((List.replicate (l.length - i) (enc z)).flatten) 0 a W hb (by rw [y, M]; omega) I
   rw [gl, y, hle] at hs
   refine .inl ⟨_, W.setRow G (a.toList.take (i * k) ++ (List.replicate (l.length - i) (enc z)).flatten ++ a.toList.drop (l.length * k)).toArray, j _ ?_, Q _ [(G, .cells (a.toList.take (i * k) ++ (List.replicate (l.length - i) (enc z)).flatten ++ a.toList.drop (l.length * k)).toArray e' (0, 0))] (p.store _) (.inr ⟨G, c, _, by rw [vX _ _ _ J], rfl, by rw [vX _ _ _ J]; exact q1, q2, ?_, ?_⟩)⟩
   ·have hn : l.length - i = (l.length - i - 1) + 1 := by omega
    simp only [Builtin.clear_]
    rw [hn]
    simp only [aY U, bZ, bK, gD, gf, hz, ew]
    rw [← hn, a1, hs]
    simp
   ·have O : a.toList.length = c * k := by simpa using M
    rw [dG, aF, aF, cZ, fH, y, O, dK (by omega)]
    omega
   ·rw [vX _ _ _ J, oy, cE, cM, E6 hk l i J, ← q4, gj, dK (by omega), List.map_replicate]
    have O : a.toList.length = c * k := by simpa using M
    have e3 : (a.toList.take (i * k) ++ (List.replicate (l.length - i) (enc z)).flatten).length = l.length * k := by rw [aF, cZ, y, O, dK (by omega)]; omega
    show List.take (l.length * k) (a.toList.take (i * k) ++ (List.replicate (l.length - i) (enc z)).flatten ++ a.toList.drop (l.length * k)) = _
    rw [eZ, dI (by rw [e3]; exact aX _), e3, Nat.sub_self]
    simp
  ·have T : i = l.length := by omega
   subst T
   refine .inl ⟨_, W, j W ?_, Q W _ p ?_⟩
   ·simp only [Builtin.clear_, Nat.sub_self]
    cases A' <;> simp [aY U]
   ·simp only [oy, List.take_length, Nat.sub_self, List.replicate_zero, bI]
    exact .inr ⟨G, c, a, rfl, rfl, q1, q2, M, q4⟩
end
end Go.Proofs.YtjjjihkifgdhgaaGreatDoor
namespace Go.Proofs.YtjjjihkifgdhgaaGreatDoor
open Go.RowKit
variable {dd : Bool}
section
variable {P : Program} {E : Nat → Value} {W : World} {d : Option Nat} {ty : TypeId} {pos : String} {af : Array Edge} {g : Option (Nat × Bool)}
 {F : Nat → Prop} {w : World} {μ : km} {L : List (Nat × Obj)}
theorem JP {K : Value → World → Prop} {f : FuncId} {fv : Operand} {ax : Array Operand} {ats : Array TypeId} {args : List Value} {v : Value} (b : jK E fv = .func (.func f) #[] #[]) (ha : ax.map (jK E) ++ (#[] : Array Value) = args.toArray) (i : (callFunc f args.toArray).run P W = .ok (.value v) W) (h : K v W) : ng P E ⟨d, .call ⟨.value fv, ax, ats⟩, ty, pos, af, g⟩ W K := by
 have a : ax.map (jK E) = args.toArray := by simpa using ha
 refine .inl ⟨v, W, ?_, h⟩
 show (do let d ← resolve (jK E) ⟨.value fv, ax, ats⟩ ty; invoke d.target d.args : Sem Next).run P W = _
 simp only [resolve, b, Deferred.ofValue, bZ, cW, bK, invoke]
 rw [a]
 simpa using i
def xx (s : ByteArray) (c : Int) : Int := Lib.indexByte s.data.toList c.toNat.toUInt8
def oX (a b : ByteArray) : Int := Lib.compareBytes a.data.toList b.data.toList
def ud (l : List Int) : List UInt8 := l.map fun x => x.toNat.toUInt8
def yB (a b : List Int) : Int := Lib.compareBytes (ud a) (ud b)
theorem Im {f : FuncId} {fn : Func} (d : P.funcs[f]? = some fn) (a : (fn.name == "runtime.NumGoroutine") = false) (b : fn.body.isNone = true) (g : Extern.findNext fn = none) (he : Extern.find fn = some Extern.BytealgIndexByte.indexByte) (s : ByteArray) (c : Int) (w : World) :
  (callFunc f [Value.string s, .int .u8 c].toArray).run P w = .ok (.value (.int .i64 (xx s c))) w := by
 rw [fO d a b g he]
 rw [Lib.run_indexByteString]
 rfl
theorem O2 {f : FuncId} {fn : Func} (h : P.funcs[f]? = some fn) (d : (fn.name == "runtime.NumGoroutine") = false) (g : fn.body.isNone = true) (i : Extern.findNext fn = none) (he : Extern.find fn = some Extern.BytealgCompare.compare) (a b : ByteArray) (w : World) :
  (callFunc f [Value.string a, .string b].toArray).run P w = .ok (.value (.int .i64 (oX a b))) w := by
 rw [fO h d g i he]
 rw [Lib.run_compareString]
 rfl
theorem Er {v : Value} {l : List Int} (h : Sl (Pl (kN .u8)) 1 (hp W) v l) : (Extern.Bytes.bytesOf v).run P W = .ok ⟨(ud l).toArray⟩ W := by
 obtain ⟨A, c, rfl, p, t, i⟩ := h
 rcases dZ l.length with a | a
 ·have : l = [] := eb.1 a
  subst this
  cases A <;> simp [Extern.Bytes.bytesOf, Extern.Bytes.loadBytes, ud] <;> rfl
 ·obtain ⟨b, off, cs, T, fr, rfl, k, m⟩ := i a
  have := Lib.run_loadBytesX (P := P) W l ⟨b, off, none⟩ .empty (fun j x n => by
   obtain ⟨ys, _, g, d⟩ := m j x n
   cases g
   rw [dz, fi W b (off + j) cs T fr k]
   have := d 0 (.int .u8 x) rfl
   simpa using this)
  simp only [Extern.Bytes.bytesOf]
  rw [this]
  congr 1
  apply fQ
  show (#[] : Array UInt8) ++ _ = _
  simp [Lib.bytesOf, ud]
theorem PU {f : FuncId} {fn : Func} (k : P.funcs[f]? = some fn) (d : (fn.name == "runtime.NumGoroutine") = false) (j : fn.body.isNone = true) (l : Extern.findNext fn = none) (he : Extern.find fn = some Extern.BytealgCompare.compare) {g h : Value} {a b : List Int} (h1 : Sl (Pl (kN .u8)) 1 (hp W) g a) (i : Sl (Pl (kN .u8)) 1 (hp W) h b) :
  (callFunc f [g, h].toArray).run P W = .ok (.value (.int .i64 (yB a b))) W := by
 rw [fO k d j l he]
 have : (Extern.BytealgCompare.compare [g, h].toArray).run P W = .ok (.int .i64 (yB a b)) W := by
  change Sem.run P (do pure (goInt (Extern.BytealgCompare.cmp (← Extern.Bytes.bytesOf g) (← Extern.Bytes.bytesOf h)))) W = _
  simp only [bZ, Er h1, Er i, cW, Result.andThen]
  rw [Lib.cmp_eq]
  rfl
 rw [this]
 rfl
theorem pc {fn : Fn} {caps : Array Operand} {cs : List Value} {v : Value} (a : caps.map (jK E) ++ (#[] : Array Value) = cs.toArray) (b : .func fn #[] cs.toArray = v) : lQ P E ⟨d, .makeFunc fn #[] caps, ty, pos, af, g⟩ W v W := by
 have : caps.map (jK E) = cs.toArray := by simpa using a
 exact M4 (by rw [this]; simpa using b)
theorem kY.mono {f : FuncId} {args : List Value} {L0 : List (Nat × Obj)} {K K' : Value → List (Nat × Obj) → World → Prop} (h : kY dd P f args w L0 K) (hk : ∀ v L1 W', K v L1 W' → K' v L1 W') : kY dd P f args w L0 K' :=
 cV h (fun _ _ ⟨v, L1, h1, a, b⟩ => ⟨v, L1, h1, a, hk _ _ _ b⟩)
end
section
variable {α : Type}
def uv (cf : α × α → Option Int) (x y : α) : Bool := match cf (x, y) with
 | some c => decide (c < 0)
 | none => false
structure E4 (cf : α × α → Option Int) (l : List α) : Prop where
 is : ∀ x ∈ l, ∀ y ∈ l, ∃ c, cf (x, y) = some c
 irrefl : ∀ x ∈ l, uv cf x x = false
 trans : ∀ x ∈ l, ∀ y ∈ l, ∀ z ∈ l, uv cf x y = true → uv cf y z = true → uv cf x z = true
 total : ∀ x ∈ l, ∀ y ∈ l, uv cf x y = false → uv cf y x = false → x = y
 short : l.length < 4611686018427387904
def tD (cf : α × α → Option Int) (l : List α) : List α := l.mergeSort fun x y => !uv cf y x
open Classical in
noncomputable def Af (cf : α × α → Option Int) (l : List α) : Option (List α) := if E4 cf l then some (tD cf l) else none
theorem Ib {cf : α × α → Option Int} {l r : List α} (h : Af cf l = some r) : E4 cf l ∧ r = tD cf l := by
 unfold Af at h
 split at h
 ·rename_i a; cases h; exact ⟨a, rfl⟩
 ·cases h
theorem Qf {cf : α × α → Option Int} {l : List α} (h : E4 cf l) : Af cf l = some (tD cf l) := by
 unfold Af; rw [bB h]
def vo (l : List ByteArray) : List ByteArray := l.mergeSort fun x y => !pY y x
end
end Go.Proofs.YtjjjihkifgdhgaaGreatDoor
namespace Go.Proofs.YtjjjihkifgdhgaaGreatDoor
open Go.RowKit
theorem yY {P : Program} {t e : TypeId} {n k : Nat} {z cs : Array Value} {a : Array (Nat × Value)} (h : ∀ w, (zeroValue t).run P w = .ok (.agg z) w) (g : P.underlying t = some (.array n e)) (d : ∀ w, (sizeOf e).run P w = .ok k w) (b : Instr.fill (fun i => some (i * k, k)) z a.toList = some cs) (W : World) : (Instr.build t a).run P W = .ok (.agg cs) W := by
 simp only [Instr.build, bZ, h W, bK, aY g, Value.cells, d W]
 simp only [b, cW]
theorem LB {P : Program} {W : World} (d : Nat) (e : TypeId) (c : Nat) (xs ys : Array Value) : (Op.eqItems d e c xs ys []).run P W = .ok true W := by simp [Op.eqItems]
theorem Fv {P : Program} {W : World} {d : Nat} {e : TypeId} {c : Nat} {xs ys : Array Value} {i : Nat} {is : List Nat} {a b : Value} {r s : Bool} (ha : (part e xs (i * c)).run P W = .ok a W) (g : (part e ys (i * c)).run P W = .ok b W) (he : (Op.equalIn d e a b).run P W = .ok r W) (h : (Op.eqItems d e c xs ys is).run P W = .ok s W) : (Op.eqItems d e c xs ys (i :: is)).run P W = .ok (r && s) W := by
 simp only [Op.eqItems, bZ, ha, g, he, bK]
 cases r <;> simp [h]
theorem MY {P : Program} {W : World} {d : Nat} {t e : TypeId} {n c : Nat} {i : TypeInfo} {xs ys : Array Value} {r : Bool} (hu : P.underlying t = some (.array n e)) (b : P.info? e = some i) (a : P.cellsOf e = c) (h : (Op.eqItems d e c xs ys (List.range n)).run P W = .ok r W) : (Op.equalIn (d + 1) t (.agg xs) (.agg ys)).run P W = .ok r W := by
 rw [run_equalIn_array W d xs ys hu b, a, h]
variable {dd : Bool}
def xd {κ γ : Type} (Q : Value → γ → List (Nat × Obj) → Prop) : List (κ × Value) → List (κ × γ) → List (Nat × Obj) → Prop
 | [], [], R => R = []
 | p :: a, q :: l, R => p.1 = q.1 ∧ ∃ R1 R2, R = R1 ++ R2 ∧ Q p.2 q.2 R1 ∧ xd Q a l R2
 | _, _, _ => False
def mO {κ γ : Type} (kenc : κ → Value) (Q : Value → γ → List (Nat × Obj) → Prop) (v : Value) (d : List (κ × Value)) (l : List (κ × γ)) (R : List (Nat × Obj)) : Prop :=
 ∃ a b, R = a ++ b ∧ lN kenc (fun x => x) v d a ∧ xd Q d l b
section
variable {κ γ : Type} {Q : Value → γ → List (Nat × Obj) → Prop} {beq : κ → κ → Bool} {kenc : κ → Value}
theorem xd.keys : ∀ {a : List (κ × Value)} {l : List (κ × γ)} {R : List (Nat × Obj)}, xd Q a l R → a.map (·.1) = l.map (·.1)
 | [], [], _, _ => rfl
 | [], _ :: _, _, h => h.elim
 | _ :: _, [], _, h => h.elim
 | p :: a, q :: l, R, h => by
  obtain ⟨h1, R1, R2, _, _, b⟩ := h
  simp [h1, xd.keys b]
theorem xd.find {a : List (κ × Value)} {l : List (κ × γ)} {R : List (Nat × Obj)} (h : xd Q a l R) (k : κ) : a.findIdx? (fun p => beq k p.1) = l.findIdx? (fun p => beq k p.1) := by
 have h1 : (a.map (·.1)).findIdx? (fun x => beq k x) = (l.map (·.1)).findIdx? (fun x => beq k x) := by rw [h.keys]
 rw [gk, gk] at h1
 exact h1
theorem xd.get : ∀ {d : List (κ × Value)} {l : List (κ × γ)} {R : List (Nat × Obj)}, xd Q d l R → ∀ (i : Nat) (k : κ) (x : γ), l[i]? = some (k, x) →
  ∃ v A R1 B, d[i]? = some (k, v) ∧ R = A ++ (R1 ++ B) ∧ Q v x R1 ∧ ∀ b v2 x2 R2, Q v2 x2 R2 → xd Q (d.set i (b, v2)) (l.set i (b, x2)) (A ++ (R2 ++ B))
 | [], [], _, _, i, k, x, a => by simp at a
 | [], _ :: _, _, h, _, _, _, _ => h.elim
 | _ :: _, [], _, h, _, _, _, _ => h.elim
 | p :: d, q :: l, R, h, 0, k, x, a => by
  obtain ⟨h1, R1, R2, rfl, g, j⟩ := h
  simp at a
  subst a
  refine ⟨p.2, [], R1, R2, by simp only [gf]; exact bA some (Prod.ext h1 rfl), rfl, g, fun b v2 x2 R2' m => ⟨rfl, R2', R2, rfl, m, j⟩⟩
 | p :: d, q :: l, R, h, i + 1, k, x, a => by
  obtain ⟨h1, R1, R2, rfl, g, j⟩ := h
  simp at a
  obtain ⟨v, A, R1', B, g1, rfl, g3, g4⟩ := xd.get j i k x a
  exact ⟨v, R1 ++ A, R1', B, by simpa using g1, by simp, g3, fun b v2 x2 R2' m => ⟨h1, R1, A ++ (R2' ++ B), by simp, g, g4 b v2 x2 R2' m⟩⟩
theorem xd.push : ∀ {b : List (κ × Value)} {l : List (κ × γ)} {R : List (Nat × Obj)}, xd Q b l R → ∀ (k : κ) {v : Value} {x : γ} {R1 : List (Nat × Obj)}, Q v x R1 → xd Q (b ++ [(k, v)]) (l ++ [(k, x)]) (R ++ R1)
 | [], [], _, h, k, v, x, R1, a => by
  have i : _ = [] := h
  subst i
  exact ⟨rfl, R1, [], by simp, a, rfl⟩
 | [], _ :: _, _, h, _, _, _, _, _ => h.elim
 | _ :: _, [], _, h, _, _, _, _, _ => h.elim
 | p :: b, q :: l, R, h, k, v, x, R1, a => by
  obtain ⟨h1, d, g, rfl, j, m⟩ := h
  exact ⟨h1, d, g ++ R1, by simp, j, xd.push m k a⟩
theorem mO.found {z : Value} {d : List (κ × Value)} {l : List (κ × γ)} {R : List (Nat × Obj)} (hk : ∀ {x y : κ}, beq x y = true → x = y) (h : mO kenc Q z d l R) {k : κ} {x : γ} (b : lm beq l k = some x) :
  ∃ v A R1 B, lm beq d k = some v ∧ R = A ++ (R1 ++ B) ∧ Q v x R1 ∧ (∀ x2 R2, Q v x2 R2 → mO kenc Q z d (nZ beq l k x2) (A ++ (R2 ++ B))) := by
 obtain ⟨u, J, rfl, E, w⟩ := h
 rw [yt] at b
 cases g : l.findIdx? (fun p => beq k p.1) with
 | none => rw [g] at b; cases b
 | some i =>
  rw [g] at b
  obtain ⟨p, hp, G⟩ := rT g
  simp only [aA, hp, ep, gm] at b
  subst b
  have t := hk G
  obtain ⟨v, A, R1, B, g1, rfl, g3, g4⟩ := w.get i p.1 p.2 hp
  have m : d.findIdx? (fun p => beq k p.1) = some i := by rw [w.find k, g]
  refine ⟨v, u ++ A, R1, B, by rw [yt, m]; simp [g1], by simp, g3, fun x2 R2 I => ⟨u, A ++ (R2 ++ B), by simp, E, ?_⟩⟩
  have a := g4 k v x2 R2 I
  have e : d.set i (k, v) = d := by
   apply eA
   intro j
   rw [eQ]
   split
   ·rename_i n
    subst n
    rw [g1, t]
    simp [(bF.1 g1).1]
   ·rfl
  rw [e] at a
  rw [nZ, g]
  exact a
theorem mO.Ni {j : Value} {d : List (κ × Value)} {l : List (κ × γ)} {R : List (Nat × Obj)} (h : mO kenc Q j d l R) {k : κ} (a : lm beq l k = none) : lm beq d k = none := by
 obtain ⟨m, n, rfl, t, g⟩ := h
 rw [yt] at a ⊢
 rw [g.find k]
 cases b : l.findIdx? (fun p => beq k p.1) with
 | none => rfl
 | some i =>
  rw [b] at a
  obtain ⟨p, hp, u⟩ := rT b
  simp [hp] at a
def rk (beq : κ → κ → Bool) (a : List (κ × Value)) (k : κ) (z : Value) : Value := (lm beq a k).getD z
variable {P : Program} {W : World} {kt : TypeId} {E : Nat → Value} {d : Option Nat} {ty : TypeId} {pos : String} {af : Array Edge} {g : Option (Nat × Bool)} {F : Nat → Prop} {w : World} {μ : km} {L : List (Nat × Obj)}
theorem oT {t e : TypeId} {m x : Operand} {i z : Value} {a : List (κ × Value)} {l : List (κ × γ)} {R : List (Nat × Obj)} {k : κ} (K : pu P kt kenc beq) (v : P.underlying t = some (.map kt e)) (A : ∀ w, (zeroValue e).run P w = .ok z w) (hm : jK E m = i) (y : jK E x = kenc k) (p : mO kenc Q i a l R) (u : ∀ b o, (b, o) ∈ R → W.heap[b]? = some o) : lQ P E ⟨d, .lookup t m x false, ty, pos, af, g⟩ W (rk beq a k z) W := by
 obtain ⟨G, I, rfl, j, J⟩ := p
 have n := J3 (d := d) (ty := ty) (pos := pos) (af := af) (g := g) K v A hm y (j.at (μ := hp W) (fun b o h => u b o (cI _ h)))
 simpa [rk] using n
variable {κ2 β : Type} {kenc2 : κ2 → Value} {vf : β → Value} {beq2 : κ2 → κ2 → Bool} {kt2 : TypeId}
theorem mO.DW {j : Value} {d : List (κ × Value)} {l : List (κ × List (κ2 × β))} {R : List (Nat × Obj)} (hk : ∀ {x y : κ}, beq x y = true → x = y) (h : mO kenc (lN kenc2 vf) j d l R) (k : κ) {μ : km} (g : ∀ b o, (b, o) ∈ R → μ b = some o) :
  wH kenc2 vf μ (rk beq d k (.map none)) ((lm beq l k).getD []) := by
 cases a : lm beq l k with
 | none => rw [rk, h.Ni a]; exact .inl ⟨rfl, rfl⟩
 | some x =>
  obtain ⟨v, A, R1, B, g1, rfl, g3, _⟩ := h.found hk a
  rw [rk, g1]
  exact g3.at (fun b o i => g b o (by simp [i]))
theorem mO.isNil {d : Value} {b : List (κ × Value)} {l : List (κ × List (κ2 × β))} {R : List (Nat × Obj)} (hk : ∀ {x y : κ}, beq x y = true → x = y) (h : mO kenc (lN kenc2 vf) d b l R) (k : κ) :
  ∃ r, rk beq b k (.map none) = .map r ∧ r.isNone = (lm beq l k).isNone := by
 cases a : lm beq l k with
 | none => rw [rk, h.Ni a]; exact ⟨none, rfl, rfl⟩
 | some x =>
  obtain ⟨v, A, R1, B, g1, rfl, g3, _⟩ := h.found hk a
  obtain ⟨m, es, clock, rfl, _⟩ := g3
  rw [rk, g1]
  exact ⟨_, rfl, rfl⟩
def GU {κ κ2 β : Type} (beq : κ → κ → Bool) (beq2 : κ2 → κ2 → Bool) (l : List (κ × List (κ2 × β))) (k : κ) (a : κ2) (x : β) : Option (List (κ × List (κ2 × β))) := (lm beq l k).map fun b => nZ beq l k (nZ beq2 b a x)
def Hg {κ γ : Type} (beq : κ → κ → Bool) (l : List (κ × γ)) (k : κ) (x : γ) : Option (List (κ × γ)) := if (lm beq l k).isNone then some (nZ beq l k x) else none
theorem OU {z : Value → World → Prop} (X : List (Nat × Obj)) {Y R : List (Nat × Obj)} {t e : TypeId} {m x y : Operand} {J : Value} {p : List (κ × Value)} {l I : List (κ × List (κ2 × β))} {k : κ} {G : κ2} {v : β} (hk : ∀ {x y : κ}, beq x y = true → x = y) (K : pu P kt2 kenc2 beq2) (O : P.underlying t = some (.map kt2 e)) (i : ST dd F w W μ (X ++ (R ++ Y))) (h : mO kenc (lN kenc2 vf) J p l R) (hm : jK E m = rk beq p k (.map none)) (Q : jK E x = kenc2 G) (T : jK E y = vf v) (b : GU beq beq2 l k G v = some I) (M : ∀ W' R', ST dd F w W' μ (X ++ (R' ++ Y)) → mO kenc (lN kenc2 vf) J p I R' → z undef W') : ng P E ⟨d, .mapUpdate t m x y, ty, pos, af, g⟩ W z := by
 unfold GU at b
 cases j : lm beq l k with
 | none => rw [j] at b; cases b
 | some U =>
  rw [j] at b
  cases b
  obtain ⟨u, A, R1, B, g1, rfl, g3, g4⟩ := h.found hk j
  have n : jK E m = u := by rw [hm, rk, g1]; rfl
  have a : ST dd F w W μ ((X ++ A) ++ (R1 ++ (B ++ Y))) := by simpa using i
  refine CA (X ++ A) K O a g3 n Q T (fun W' R' h1 L => M W' (A ++ (R' ++ B)) ?_ (g4 _ _ L))
  simpa using h1
theorem N1 {J : Value → World → Prop} (X : List (Nat × Obj)) {Y R R2 : List (Nat × Obj)} {t e : TypeId} {m x y : Operand} {I : Value} {G : List (κ × Value)} {l O : List (κ × γ)} {k : κ} {u : Value} {z : γ} (K : pu P kt kenc beq) (ht : P.underlying t = some (.map kt e)) (A : ST dd F w W μ (X ++ (R ++ (R2 ++ Y)))) (h : mO kenc Q I G l R) (hm : jK E m = I) (hx : jK E x = kenc k) (hy : jK E y = u) (hq : Q u z R2) (b : Hg beq l k z = some O) (hK : ∀ W' R', ST dd F w W' μ (X ++ (R' ++ Y)) → mO kenc Q I (nZ beq G k u) O R' → J undef W') : ng P E ⟨d, .mapUpdate t m x y, ty, pos, af, g⟩ W J := by
 unfold Hg at b
 cases n : lm beq l k with
 | some l2 => rw [n] at b; cases b
 | none =>
  rw [n] at b
  simp only [Option.isNone_none, aU, gm] at b
  subst b
  have hn := h.Ni n
  obtain ⟨U, v, rfl, Z, h3⟩ := h
  have j : ST dd F w W μ (X ++ (U ++ (v ++ (R2 ++ Y)))) := by simpa using A
  refine CA X K ht j Z hm hx hy (fun W' R' g1 g2 => hK W' (R' ++ (v ++ R2)) (by simpa using g1) ⟨R', v ++ R2, rfl, g2, ?_⟩)
  have L : ∀ {T : Type} (q : List (κ × T)) (y : T), lm beq q k = none → nZ beq q k y = q ++ [(k, y)] := fun q y a => by
   rw [yt] at a
   rw [nZ]
   cases M : q.findIdx? (fun p => beq k p.1) with
   | none => rfl
   | some i =>
    obtain ⟨p, hp, _⟩ := rT M
    rw [M] at a
    simp [hp] at a
  rw [L G u hn, L l z n]
  exact h3.push k hq
end
end Go.Proofs.YtjjjihkifgdhgaaGreatDoor
namespace Go.Proofs.YtjjjihkifgdhgaaGreatDoor
open Go.RowKit
variable {dd : Bool}
section
variable {κ γ : Type} {Q : Value → γ → List (Nat × Obj) → Prop} {beq : κ → κ → Bool} {kenc : κ → Value}
theorem qU {a : Type} {l : List (κ × a)} {k : κ} {i : Nat} (h : l.findIdx? (fun p => beq k p.1) = some i) (x : a) : nZ beq l k x = l.set i (k, x) := by rw [nZ, h]
theorem vw {a : Type} {l : List (κ × a)} {k : κ} (h : l.findIdx? (fun p => beq k p.1) = none) (x : a) : nZ beq l k x = l ++ [(k, x)] := by rw [nZ, h]
theorem EP {a : Type} {l : List (κ × a)} {k : κ} (h : l.findIdx? (fun p => beq k p.1) = none) : lm beq l k = none := by rw [yt, h]; rfl
theorem DV {a : Type} {l : List (κ × a)} {k : κ} {i : Nat} {p : κ × a} (h : l.findIdx? (fun p => beq k p.1) = some i) (hp : l[i]? = some p) : lm beq l k = some p.2 := by rw [yt, h]; simp [hp]
def NE (beq : κ → κ → Bool) (kenc : κ → Value) (Q : Value → γ → List (Nat × Obj) → Prop) (d : Value) (b : List (κ × Value)) (l : List (κ × γ)) (k : κ) (R : List (Nat × Obj)) : Prop :=
 ∃ a A B, R = a ++ (A ++ B) ∧ lN kenc (fun x => x) d b a ∧ ∀ v x R1, Q v x R1 → xd Q (nZ beq b k v) (nZ beq l k x) (A ++ (R1 ++ B))
theorem mO.open (hk : ∀ {x y : κ}, beq x y = true → x = y) {w z : Value} {x0 : γ} (m : Q z x0 []) {n : List (κ × Value)} {l : List (κ × γ)} {R : List (Nat × Obj)} (h : mO kenc Q w n l R) (k : κ) :
  ∃ R' R1, R.Perm (R' ++ R1) ∧ Q (rk beq n k z) ((lm beq l k).getD x0) R1 ∧ NE beq kenc Q w n l k R' := by
 obtain ⟨d, t, rfl, u, g⟩ := h
 have b := g.find (beq := beq) k
 cases a : l.findIdx? (fun p => beq k p.1) with
 | none =>
  rw [a] at b
  refine ⟨d ++ t, [], by simp, ?_, d, t, [], by simp, u, fun v x R1 j => ?_⟩
  ·rw [rk, EP a, EP b]; exact m
  ·rw [vw a, vw b]; simpa using g.push k j
 | some i =>
  rw [a] at b
  obtain ⟨p, hp, E⟩ := rT a
  have G := hk E
  obtain ⟨v, A, R1, B, g1, rfl, g3, g4⟩ := g.get i p.1 p.2 hp
  refine ⟨d ++ (A ++ B), R1, ?_, ?_, d, A, B, rfl, u, fun v2 x2 R2 j => ?_⟩
  ·rw [aM, aM]
   refine cC _ (cC _ et)
  ·rw [rk, DV a hp, DV b g1]; exact g3
  ·rw [qU a, qU b]; exact g4 k v2 x2 R2 j
variable {P : Program} {W : World} {kt : TypeId} {E : Nat → Value} {d : Option Nat} {ty : TypeId} {pos : String} {af : Array Edge} {g : Option (Nat × Bool)} {F : Nat → Prop} {w : World} {μ : km} {L : List (Nat × Obj)}
theorem Th {j : Value → World → Prop} (X : List (Nat × Obj)) {Y R R1 : List (Nat × Obj)} {t e : TypeId} {m x y : Operand} {i : Value} {n : List (κ × Value)} {l : List (κ × γ)} {k : κ} {u : Value} {z : γ} (K : pu P kt kenc beq) (L : P.underlying t = some (.map kt e)) (b : ST dd F w W μ (X ++ (R ++ (R1 ++ Y)))) (h : NE beq kenc Q i n l k R) (hm : jK E m = i) (M : jK E x = kenc k) (O : jK E y = u) (J : Q u z R1) (I : ∀ W' R', ST dd F w W' μ (X ++ (R' ++ Y)) → mO kenc Q i (nZ beq n k u) (nZ beq l k z) R' → j undef W') : ng P E ⟨d, .mapUpdate t m x y, ty, pos, af, g⟩ W j := by
 obtain ⟨p, A, B, rfl, v, G⟩ := h
 have a : ST dd F w W μ (X ++ (p ++ (A ++ (B ++ (R1 ++ Y))))) := by simpa using b
 refine CA X K L a v hm M O (fun W' R' g1 g2 => I W' (R' ++ (A ++ (R1 ++ B))) ?_ ⟨R', A ++ (R1 ++ B), rfl, g2, G u z R1 J⟩)
 refine g1.perm ?_
 simp only [aM]
 refine cC _ (cC _ (cC _ ?_))
 rw [← aM, ← aM]
 exact gn _ et
def JM (beq : κ → κ → Bool) (kenc : κ → Value) (Q : Value → γ → List (Nat × Obj) → Prop) (b : Value) (l : List (κ × γ)) (k : κ) (d : Nat) (R : List (Nat × Obj)) : Prop :=
 ∃ m es clock a A B i e, b = .map (some m) ∧ R = (m, .map es clock) :: (A ++ B) ∧ uX kenc (fun x => x) a es clock ∧ es[i]? = some e ∧ e.born = d ∧ a.findIdx? (fun p => beq k p.1) = some i ∧
  ∀ v x R1, Q v x R1 → xd Q (nZ beq a k v) (nZ beq l k x) (A ++ (R1 ++ B))
theorem I2 {h : Type} (hk : ∀ x : κ, beq x x = true) (g : List (κ × h)) (k : κ) (a b : h) : nZ beq (nZ beq g k a) k b = nZ beq g k b := by
 cases d : g.findIdx? (fun p => beq k p.1) with
 | none =>
  have h1 : (g ++ [(k, a)]).findIdx? (fun p => beq k p.1) = some g.length := by
   rw [gJ, d]
   simp [eL, hk]
  rw [vw d, vw d, qU h1]
  simp
 | some i =>
  obtain ⟨p, hp, t⟩ := rT d
  have h1 : (g.set i (k, a)).findIdx? (fun p => beq k p.1) = some i := by
   rw [ei] at d ⊢
   obtain ⟨h1, n, l⟩ := d
   refine ⟨by simpa using h1, by simp [hk], fun j m => ?_⟩
   rw [List.getElem_set_ne (by omega)]
   exact l j m
  rw [qU d, qU d, qU h1]
  simp
end
end Go.Proofs.YtjjjihkifgdhgaaGreatDoor
namespace Go.Proofs.YtjjjihkifgdhgaaGreatDoor
open Go.RowKit
variable {dd : Bool}
section
variable {κ γ : Type} {Q : Value → γ → List (Nat × Obj) → Prop} {beq : κ → κ → Bool} {kenc : κ → Value}
variable {P : Program} {W : World} {kt : TypeId} {E : Nat → Value} {d : Option Nat} {ty : TypeId} {pos : String} {af : Array Edge} {g : Option (Nat × Bool)} {F : Nat → Prop} {w : World} {μ : km} {L : List (Nat × Obj)}
theorem ET {es : Array MapEntry} {i : Nat} {f b : MapEntry → MapEntry} (h : ∀ e, es[i]? = some e → f e = b e) : es.modify i f = es.modify i b := by
 apply Array.ext_getElem?
 intro j
 rw [dM, dM]
 split
 ·rename_i a
  subst a
  cases he : es[i]? with
  | none => rfl
  | some e => simp [h e he]
 ·rfl
theorem uX.val {b : List (κ × Value)} {es : Array MapEntry} {clock : Nat} (h : uX kenc (fun x => x) b es clock) {i : Nat} {e : MapEntry} (he : es[i]? = some e) : ∃ p, b[i]? = some p ∧ e.key = kenc p.1 ∧ e.val = p.2 := by
 have a := bA (fun q => q[i]?) h.F0
 simp only [eB, dN, he, ep] at a
 cases hp : b[i]? with
 | none => rw [hp] at a; cases a
 | some p =>
  rw [hp] at a
  simp only [ep, gm, Prod.mk.injEq] at a
  exact ⟨p, rfl, a.1, a.2⟩
theorem Nq {Kk : Value → World → Prop} (X : List (Nat × Obj)) {Y R : List (Nat × Obj)} {t e : TypeId} {m x : Operand} {mv z : Value} {x0 : γ} {lv : List (κ × Value)} {l : List (κ × γ)} {k : κ} (hk : ∀ {x y : κ}, beq x y = true ↔ x = y) (K : pu P kt kenc beq) (ht : P.underlying t = some (.map kt e)) (hz : ∀ w, (zeroValue e).run P w = .ok z w) (ah : Q z x0 []) (a1 : ST dd F w W μ (X ++ (R ++ Y))) (h : mO kenc Q mv lv l R) (hm : jK E m = mv) (hx : jK E x = kenc k) (hK : ∀ W' v st R' R1, ST dd F w W' μ (X ++ (R' ++ (R1 ++ Y))) → Q v ((lm beq l k).getD x0) R1 → JM beq kenc Q mv l k st R' → Kk (.tuple #[v, .int .i64 (st : Nat)]) W') : ng P E ⟨d, .mapEntry t m x, ty, pos, af, g⟩ W Kk := by
 obtain ⟨Rm, Rv, rfl, ⟨u, es, clock, rfl, rfl, G⟩, Z⟩ := h
 have hb : W.heap[u]? = some (.map es clock) := (a1.box u (.map es clock) (by simp)).1
 have h5 : (getObj u : Sem Obj).run P W = .ok (.map es clock) W := by simp [getObj, Sem.run, hb]
 have T := K.find k _ _ G.keys W
 rw [G.get k] at T
 have L := Z.find (beq := beq) k
 have J : ∀ W' v, (Instr.mapEntry t (.map (some u)) (kenc k)).run P W = .ok v W' → (execOp (jK E) ⟨d, .mapEntry t m x, ty, pos, af, g⟩).run P W = .ok (.value v) W' := by
  intro W' v hr
  show (do pure (.value (← Instr.mapEntry t (jK E m) (jK E x))) : Sem Next).run P W = _
  rw [hm, hx]
  simp [hr]
 have I : ST dd F w W μ (X ++ (u, .map es clock) :: (Rv ++ Y)) := by simpa using a1
 cases b : lv.findIdx? (fun p => beq k p.1) with
 | none =>
  rw [b] at T L
  have a := G.put (beq := beq) k z
  rw [b] at a
  refine .inl ⟨_, ChangeMaps.setBlock W u (.map (es.push { key := kenc k, val := z, born := clock }) (clock + 1)), J _ (.tuple #[z, .int .i64 (clock : Nat)]) ?_, hK _ z clock ((u, .map (es.push { key := kenc k, val := z, born := clock }) (clock + 1)) :: (Rv ++ [])) [] ?_ ?_ ?_⟩
  ·simp [Instr.mapEntry, aY ht, h5, K.check, T, yQ hb, hz _, goInt]
  ·have := I.setBlock (.map (es.push { key := kenc k, val := z, born := clock }) (clock + 1))
   simpa using this
  ·rw [EP L.symm]; exact ah
  ·refine ⟨u, _, _, lv ++ [(k, z)], Rv, [], es.size, { key := kenc k, val := z, born := clock }, rfl, rfl, a, by simp, rfl, ?_, fun v x R1 hq => ?_⟩
   ·rw [gJ, b]
    have ae := G.length
    simp [eL, hk, ae]
   ·rw [← vw b, I2 (fun x => hk.2 rfl), vw b, vw L.symm]
    simpa using Z.push k hq
 | some i =>
  rw [b] at T L
  obtain ⟨p, hp, ag⟩ := rT b
  obtain ⟨q, ad, a6⟩ := rT L.symm
  have aj := hk.1 a6
  obtain ⟨v, A, R1, B, g1, rfl, g3, g4⟩ := Z.get i q.1 q.2 ad
  have ab : p.2 = v := by rw [g1] at hp; cases hp; rfl
  have ae := G.length
  have ai : i < lv.length := (bF.1 hp).1
  obtain ⟨U, n⟩ : ∃ U, es[i]? = some U := ⟨es[i], Array.getElem?_eq_getElem (by omega)⟩
  obtain ⟨p', aa, M, O⟩ := G.val n
  rw [hp] at aa
  cases aa
  simp only [aA, hp, ep] at T
  have a := G.put (beq := beq) k v
  rw [b] at a
  have a7 : ((es[i]?).map (·.key)).getD (kenc k) = kenc k := by
   rw [n]
   simp only [ep, gG, M]
   exact K.eq k p.1 ag
  have a8 : es.modify i (fun e => { e with key := kenc k }) = es.modify i (fun e => { e with key := kenc k, val := v }) := ET fun e he => by
   rw [n] at he; cases he
   rw [← ab, ← O]
  refine .inl ⟨_, ChangeMaps.setBlock W u (.map (es.modify i fun e => { e with key := kenc k, val := v }) clock), J _ (.tuple #[v, .int .i64 (U.born : Nat)]) ?_, hK _ v U.born ((u, .map (es.modify i fun e => { e with key := kenc k, val := v }) clock) :: (A ++ B)) R1 ?_ ?_ ?_⟩
  ·simp only [Instr.mapEntry, bZ, aY ht, h5, K.check, T, bK, a7, Instr.keyThatStays, K.bits, aU, cW]
   rw [yQ hb, a8]
   simp [n, goInt, ab]
  ·have := I.setBlock (.map (es.modify i fun e => { e with key := kenc k, val := v }) clock)
   refine this.perm ?_
   simp only [aM, bU]
   refine cC _ (List.Perm.cons _ (cC _ ?_))
   rw [← aM, ← aM]
   exact gn _ et
  ·rw [DV L.symm ad]; exact g3
  ·refine ⟨u, _, _, lv.set i (k, v), A, B, i, { U with key := kenc k, val := v }, rfl, rfl, a, ?_, rfl, ?_, fun v2 x2 R2 hq => ?_⟩
   ·rw [dM, bB rfl, n]; rfl
   ·rw [ei] at b ⊢
    obtain ⟨h1, G, Z⟩ := b
    refine ⟨by simpa using h1, by simp [hk], fun j hj => ?_⟩
    rw [List.getElem_set_ne (by omega)]
    exact Z j hj
   ·rw [← qU b, I2 (fun x => hk.2 rfl), qU b, qU L.symm]
    exact g4 k v2 x2 R2 hq
theorem Ou {es : Array MapEntry} (h : es.toList.Pairwise (fun a b => a.born < b.born)) {i : Nat} {e : MapEntry} (he : es[i]? = some e) : es.findIdx? (fun a => (a.born : Int) == (e.born : Int)) = some i := by
 rw [Array.findIdx?_eq_some_iff_getElem]
 obtain ⟨g, d⟩ := dF.1 he
 refine ⟨g, by rw [d]; simp, fun j k => ?_⟩
 have := List.pairwise_iff_getElem.1 h j i (by simpa using Nat.lt_trans k g) (by simpa using g) k
 simp only [Array.getElem_toList] at this
 rw [d] at this
 simp
 omega
theorem Lb {Kk : Value → World → Prop} (X : List (Nat × Obj)) {Y R R1 : List (Nat × Obj)} {t e : TypeId} {m s y : Operand} {mv u : Value} {z : γ} {l : List (κ × γ)} {k : κ} {st : Nat} (hk : ∀ {x y : κ}, beq x y = true ↔ x = y) (K : pu P kt kenc beq) (G : ST dd F w W μ (X ++ (R ++ (R1 ++ Y)))) (h : JM beq kenc Q mv l k st R) (hm : jK E m = mv) (hs : jK E s = .int .i64 (st : Nat)) (hy : jK E y = u) (hq : Q u z R1) (hK : ∀ W' a6 R', ST dd F w W' μ (X ++ (R' ++ Y)) → mO kenc Q mv a6 (nZ beq l k z) R' → Kk undef W') : ng P E ⟨d, .entryStore t m s y, ty, pos, af, g⟩ W Kk := by
 obtain ⟨b, es, clock, lv, A, B, i, en, rfl, rfl, T, n, j, Z, h3⟩ := h
 have hb : W.heap[b]? = some (.map es clock) := (G.box b (.map es clock) (by simp)).1
 have h5 : (getObj b : Sem Obj).run P W = .ok (.map es clock) W := by simp [getObj, Sem.run, hb]
 obtain ⟨p, hp, U⟩ := rT Z
 obtain ⟨p', O, v, a1⟩ := T.val n
 rw [hp] at O
 cases O
 have a := T.put (beq := beq) k u
 rw [Z] at a
 have M : es.modify i (fun e => { e with val := u }) = es.modify i (fun e => { e with key := kenc k, val := u }) := ET fun e he => by
  rw [n] at he; cases he
  have J : en.key = kenc k := by rw [v]; exact K.eq k p.1 U
  rw [← J]
 have L := Ou T.born n
 rw [j] at L
 have I : ST dd F w W μ (X ++ (b, .map es clock) :: (A ++ (B ++ (R1 ++ Y)))) := by simpa using G
 refine .inr (.inl ⟨ChangeMaps.setBlock W b (.map (es.modify i fun e => { e with key := kenc k, val := u }) clock), ?_, hK _ (nZ beq lv k u) ((b, .map (es.modify i fun e => { e with key := kenc k, val := u }) clock) :: (A ++ (R1 ++ B))) ?_ ⟨[(b, .map (es.modify i fun e => { e with key := kenc k, val := u }) clock)], A ++ (R1 ++ B), rfl, ⟨b, _, _, rfl, rfl, ?_⟩, h3 u z R1 hq⟩⟩)
 ·show (do Instr.entryStore t (jK E m) (jK E s) (jK E y); pure .skip : Sem Next).run P W = _
  rw [hm, hs, hy]
  simp only [Instr.entryStore, bZ, h5, bK, asInt, asIntOf, cW, L]
  rw [yQ hb, M]
  rfl
 ·have := I.setBlock (.map (es.modify i fun e => { e with key := kenc k, val := u }) clock)
  refine this.perm ?_
  simp only [aM, bU]
  refine cC _ (List.Perm.cons _ (cC _ ?_))
  rw [← aM, ← aM]
  exact gn _ et
 ·rw [qU Z]; exact a
end
end Go.Proofs.YtjjjihkifgdhgaaGreatDoor
namespace Go.Proofs.YtjjjihkifgdhgaaGreatDoor
open Go.RowKit
variable {dd : Bool}
section
variable {κ γ : Type} {Q : Value → γ → List (Nat × Obj) → Prop} {beq : κ → κ → Bool} {kenc : κ → Value}
def lP (kenc : κ → Value) (Q : Value → γ → List (Nat × Obj) → Prop) (v : Value) (l : List (κ × γ)) (R : List (Nat × Obj)) : Prop := ∃ a, mO kenc Q v a l R
def qo (kenc : κ → Value) (Q : Value → γ → List (Nat × Obj) → Prop) (μ : km) (v : Value) (l : List (κ × γ)) : Prop := ∃ a R, mO kenc Q v a l R ∧ ∀ b o, (b, o) ∈ R → μ b = some o
theorem lP.at {v : Value} {l : List (κ × γ)} {R : List (Nat × Obj)} {μ : km} (h : lP kenc Q v l R) (a : ∀ b o, (b, o) ∈ R → μ b = some o) : qo kenc Q μ v l := let ⟨d, h⟩ := h; ⟨d, R, h, a⟩
theorem qo.mono {v : Value} {l : List (κ × γ)} {μ μ' : km} (h : qo kenc Q μ v l) (g : kj μ μ') : qo kenc Q μ' v l := let ⟨i, R, h, a⟩ := h; ⟨i, R, h, fun b o d => g _ _ (a b o d)⟩
theorem mO.form {v : Value} {a : List (κ × Value)} {l : List (κ × γ)} {R : List (Nat × Obj)} (h : mO kenc Q v a l R) : ∃ m, v = .map (some m) := let ⟨_, _, _, h, _⟩ := h; h.form
theorem mO.e {v : Value} {a : List (κ × Value)} {l : List (κ × γ)} {R : List (Nat × Obj)} (h : mO kenc Q v a l R) : lP kenc Q v l R := ⟨a, h⟩
theorem lP.form {v : Value} {l : List (κ × γ)} {R : List (Nat × Obj)} (h : lP kenc Q v l R) : ∃ m, v = .map (some m) := let ⟨_, h⟩ := h; h.form
theorem lP.new {v : Value} {R : List (Nat × Obj)} (h : lN (β := Value) kenc (fun x => x) v [] R) : lP kenc Q v [] R := ⟨[], R, [], (bI R).symm, h, rfl⟩
theorem mO.rowAt {α : Type} {e : TypeId} {enc : α → List Value} {n : Nat} {i : Value} {d : List (κ × Value)} {l : List (κ × List α)} {R : List (Nat × Obj)} (hk : ∀ {x y : κ}, beq x y = true → x = y) (h : mO kenc (jZ e enc n) i d l R) (k : κ) :
  ∃ R1, jZ e enc n (rk beq d k (.slice none 0 0)) ((lm beq l k).getD []) R1 ∧ ∀ b o, (b, o) ∈ R1 → (b, o) ∈ R := by
 cases a : lm beq l k with
 | none => refine ⟨[], ?_, fun b o h => by cases h⟩; rw [rk, h.Ni a]; exact .inl ⟨rfl, rfl, rfl⟩
 | some x =>
  obtain ⟨v, A, R1, B, g1, rfl, g3, _⟩ := h.found hk a
  refine ⟨R1, ?_, fun b o g => by simp [g]⟩
  rw [rk, g1]; exact g3
theorem jZ.Ej {α : Type} {e : TypeId} {enc : α → List Value} {k : Nat} {v : Value} {l : List α} {R : List (Nat × Obj)} (h : jZ e enc k v l R) (hk : ∀ x, (enc x).length = k) : Sl (Pl enc) k (CK R) v l := by
 refine h.sl hk (fun b o a => ?_)
 rcases h with ⟨rfl, rfl, rfl⟩ | ⟨g, cap, d, rfl, rfl, _⟩
 ·cases a
 ·simp at a; obtain ⟨rfl, rfl⟩ := a; simp [CK]
end
theorem nC.hp (W : World) : nC (hp W) [] W := ⟨fun _ _ h => h, fun _ _ h => by cases h⟩
section
variable {P : Program} {W : World} {E : Nat → Value} {d : Option Nat} {ty : TypeId} {pos : String} {af : Array Edge} {g : Option (Nat × Bool)} {F : Nat → Prop} {w : World} {μ : km} {L : List (Nat × Obj)}
theorem Ie {t k e : TypeId} (dd : Nat) (b : P.underlying t = some (.map k e)) (a : Option Nat) (W : World) : (Op.equalIn (dd + 1) t (.map a) (.map none)).run P W = .ok a.isNone W := by
 cases a <;> simp [Op.equalIn, aY b]
theorem NH {tx tv k e : TypeId} {x y : Operand} {r : Option Nat} {b : Bool} (i : P.underlying tx = some (.map k e)) (j : jK E x = .map r) (l : jK E y = .map none) (h : r.isNone = b) :
  lQ P E ⟨d, .binOp .eql tx x y tv, ty, pos, af, g⟩ W (.bool b) W := by
 subst h
 show (do let r ← (do eqGuard .eql tx x y (jK E x) (jK E y); binOp .eql tx (jK E x) (jK E y)); pure (.value r) : Sem Next).run P W = _
 rw [j, l]
 have a := Ie 9999 i r W
 simp [eqGuard, binOp, Op.equal, show Op.maxDepth = 9999 + 1 from rfl, a]
theorem Lx {κ κ2 β : Type} {kenc : κ → Value} {kenc2 : κ2 → Value} {vf : β → Value} {beq : κ → κ → Bool} {tx tv kt e : TypeId} {x y : Operand} {n : Value} {a : List (κ × Value)} {l : List (κ × List (κ2 × β))} {R : List (Nat × Obj)} {k : κ} (hk : ∀ {x y : κ}, beq x y = true → x = y) (i : P.underlying tx = some (.map kt e)) (h : mO kenc (lN kenc2 vf) n a l R) (j : jK E x = rk beq a k (.map none)) (m : jK E y = .map none) :
  lQ P E ⟨d, .binOp .eql tx x y tv, ty, pos, af, g⟩ W (.bool (lm beq l k).isNone) W := by
 obtain ⟨r, h1, b⟩ := h.isNil hk k
 exact NH i (j.trans h1) m b
theorem DF {κ γ : Type} {b : Value → World → Prop} {t : TypeId} (kenc : κ → Value) (Q : Value → γ → List (Nat × Obj) → Prop) (a : ST dd F w W μ L) (i : ∀ W' v R, ST dd F w W' μ (R ++ L) → lP kenc Q v [] R → b v W') : ng P E ⟨d, .makeMap t none, ty, pos, af, g⟩ W b :=
 I5 kenc (fun x : Value => x) a (fun W' v R h1 h => i W' v R h1 (lP.new h))
end
def pH {α : Type} (e : TypeId) (enc : α → List Value) (k : Nat) (v : Value) (l : List α) (R : List (Nat × Obj)) : Prop :=
 (v = .slice none 0 0 ∧ l = [] ∧ R = []) ∨
 ∃ g off cap a, v = .slice (some ⟨g, off, none⟩) l.length cap ∧ R = [(g, .cells a e (0, 0))] ∧ l.length ≤ cap ∧ cap ≤ maxLen ∧ off + cap * k ≤ a.size ∧ (a.toList.drop off).take (l.length * k) = (l.map enc).flatten
section
variable {α : Type} {e : TypeId} {enc : α → List Value} {k : Nat} {v : Value} {l : List α} {R : List (Nat × Obj)}
theorem pH.nil (e : TypeId) (enc : α → List Value) (k : Nat) : pH e enc k (.slice none 0 0) [] [] := .inl ⟨rfl, rfl, rfl⟩
theorem jZ.Uj (h : jZ e enc k v l R) : pH e enc k v l R := by
 rcases h with h | ⟨g, cap, a, h1, b, d, i, m, j⟩
 ·exact .inl h
 ·exact .inr ⟨g, 0, cap, a, h1, b, d, i, by omega, by simpa using j⟩
theorem pH.len (h : pH e enc k v l R) : l.length ≤ 9223372036854775807 := by
 rcases h with ⟨rfl, rfl, rfl⟩ | ⟨g, off, cap, a, rfl, rfl, h1, b, _⟩
 ·simp
 ·unfold maxLen at b; omega
theorem pH.form (h : pH e enc k v l R) : ∃ A c, v = .slice A l.length c := by
 rcases h with ⟨rfl, rfl, rfl⟩ | ⟨g, off, cap, a, rfl, rfl, _⟩
 ·exact ⟨_, _, rfl⟩
 ·exact ⟨_, _, rfl⟩
theorem pH.Ej (h : pH e enc k v l R) (hk : ∀ x, (enc x).length = k) : Sl (Pl enc) k (CK R) v l := by
 rcases h with ⟨rfl, rfl, rfl⟩ | ⟨g, off, cap, a, rfl, rfl, h1, d, t, m⟩
 ·exact Sl.nil _ _ _
 ·refine ⟨_, cap, rfl, h1, d, fun _ => ⟨g, off, a, e, (0, 0), rfl, by simp [CK], fun i x n => ⟨enc x, hk x, rfl, fun j y p => ?_⟩⟩⟩
  have := wX hk l i x n j y p
  rw [← m] at this
  have b : i * k + j < l.length * k := by
   have := (bF.1 this).1
   simp at this; omega
  rw [dB b, dS] at this
  simpa [ev] using this
variable {P : Program} {W : World} {E : Nat → Value} {d : Option Nat} {ty : TypeId} {pos : String} {af : Array Edge} {g : Option (Nat × Bool)} {F : Nat → Prop} {w : World} {μ : km} {L : List (Nat × Obj)}
theorem Qg {x : Operand} {t a : TypeId} (b : P.underlying t = some (.slice a)) (i : jK E x = v) (h : pH e enc k v l R) : lQ P E ⟨d, .call ⟨.builtin .len, #[x], #[t]⟩, ty, pos, af, g⟩ W (.int .i64 l.length) W := by
 obtain ⟨A, c, rfl⟩ := h.form
 exact Du b i
theorem Nd {t y : TypeId} {x n : Operand} {U : IntKind} {i : Int} (I : P.underlying t = some (.slice y)) (he : ∀ w, (sizeOf y).run P w = .ok k w) (J : jK E x = v) (A : jK E n = .int U i) (hk : ∀ x, (enc x).length = k) (h : pH e enc k v l R) (L : 0 ≤ i) (G : i ≤ l.length) :
  ∃ u, pH e enc k u (l.drop i.toNat) R ∧ ∀ W, lQ P E ⟨d, .slice t x (some n) none none, ty, pos, af, g⟩ W u W := by
 rcases h with ⟨rfl, rfl, rfl⟩ | ⟨m, off, cap, b, rfl, rfl, h1, Y, Z, M⟩
 ·have : i = 0 := by simp at G; omega
  subst this
  refine ⟨.slice none 0 0, by simpa using pH.nil e enc k, fun W => ?_⟩
  show (do pure (.value (← Instr.sliceAt t (jK E x) (some (jK E n)) none none)) : Sem Next).run P W = _
  rw [J, A]
  simp [Instr.sliceAt, Instr.slice, Instr.sliceBounds, Instr.sliceBound, asIntOf, aY I, he W]
 ·refine ⟨.slice (some (if cap = i.toNat then ⟨m, off, none⟩ else (Addr.add ⟨m, off, none⟩ (i.toNat * k)))) (l.length - i.toNat) (cap - i.toNat), .inr ?_, fun W => ?_⟩
  ·have a : (l.drop i.toNat).length = l.length - i.toNat := by simp
   have j : (l.map enc).flatten.drop (i.toNat * k) = ((l.drop i.toNat).map enc).flatten := by
    have O : l = l.take i.toNat ++ l.drop i.toNat := (gF _ _).symm
    have Q : ((l.take i.toNat).map enc).flatten.length = i.toNat * k := by rw [pd hk, cZ, dK (by omega)]
    conv => lhs; rw [O, cE, cM]
    rw [← Q, List.drop_left]
   by_cases z : cap = i.toNat
   ·rw [bB z]
    have p : l.drop i.toNat = [] := List.drop_eq_nil_of_le (by omega)
    refine ⟨m, off, cap - i.toNat, b, by rw [p]; simp; omega, rfl, by rw [p]; simp, by omega, by have : (cap - i.toNat) * k ≤ cap * k := cN _ (by omega); omega, by rw [p]; simp⟩
   ·rw [bE z]
    refine ⟨m, off + i.toNat * k, cap - i.toNat, b, by rw [a, dz], rfl, by rw [a]; omega, by omega, ?_, ?_⟩
    ·have : i.toNat * k + (cap - i.toNat) * k = cap * k := by rw [← cR]; congr 1; omega
     omega
    ·rw [a, ← j, ← M, ig, List.drop_drop, Nat.sub_mul]
  ·show (do pure (.value (← Instr.sliceAt t (jK E x) (some (jK E n)) none none)) : Sem Next).run P W = _
   rw [J, A]
   have T : 0 ≤ i ∧ i ≤ (l.length : Int) := ⟨L, G⟩
   simp [Instr.sliceAt, Instr.slice, Instr.sliceBounds, Instr.sliceBound, asIntOf, aY I, he W, T]
   split <;> rfl
theorem LA {K : Value → World → Prop} {t : TypeId} {a7 : Nat} {z vs : Value} {m r : List α} (X : List (Nat × Obj)) {Y : List (Nat × Obj)} {x y : Operand} {i : TypeInfo} (a8 : ST dd F w W μ (X ++ (R ++ Y))) (hk : ∀ x, (enc x).length = k) (al : 0 < k) (h1 : ∀ x, ∀ u ∈ enc x, u.oneCell' = true) (ht : P.underlying t = some (.slice e)) (hi : P.info? e = some i) (hz : i.zero = some z) (ae : z.cells.size = k) (a6 : i.size = k) (aa : i.bytes = a7) (hx : jK E x = v) (hy : jK E y = vs) (hR : pH e enc k v l R) (hs : Sl (Pl enc) k (hp W) vs m) (hb : mE a7 l m = some r) (h : ∀ W' v' R', ST dd F w W' μ (X ++ (R' ++ Y)) → pH e enc k v' r R' → K v' W') : ng P E ⟨d, .call ⟨.builtin .append, #[x, y], #[t, t]⟩, ty, pos, af, g⟩ W K := by
 rcases hR with ⟨rfl, rfl, rfl⟩ | ⟨G, off, cap, p, rfl, rfl, h2, h3, h4, h5⟩
 ·exact Kd X a8 hk al h1 ht hi hz ae a6 aa hx hy (jZ.nil e enc k) hs hb (fun W' v' R' a b => h W' v' R' a b.Uj)
 unfold mE at hb
 split at hb
 case isFalse => cases hb
 rename_i a1
 cases hb
 have Z : ∀ (V : Value) (W' : World), (Builtin.append_ #[t, t] ty #[.slice (some ⟨G, off, none⟩) l.length cap, vs]).run P W = .ok V W' → (execOp (jK E) ⟨d, .call ⟨.builtin .append, #[x, y], #[t, t]⟩, ty, pos, af, g⟩).run P W = .ok (.value V) W' := by
  intro V W' hV
  show (do let d ← resolve (jK E) ⟨.builtin .append, #[x, y], #[t, t]⟩ ty; invoke d.target d.args : Sem Next).run P W = _
  simp [resolve, invoke, builtin, hx, hy, hV]
 obtain ⟨A, c, rfl, ap, aq, ai⟩ := hs
 have M : ST dd F w W μ (X ++ (G, .cells p e (0, 0)) :: Y) := by simpa using a8
 have hg : W.heap[G]? = some (.cells p e (0, 0)) := (M.box G _ (by simp)).1
 have L := pd hk l
 have U : ∀ u ∈ (m.map enc).flatten, u.oneCell' = true := by
  intro u hu
  obtain ⟨ys, ao, an⟩ := iS.1 hu
  obtain ⟨x, _, rfl⟩ := bJ.1 ao
  exact h1 x u an
 have J : Src P i.size t (.slice A m.length c) m.length ((m.map enc).flatten) W := by
  rw [a6]
  rcases dZ m.length with h0 | h0
  ·have hm : m = [] := aV h0
   subst hm
   cases A with
   | none => exact Src.ofNil W ht c
   | some ad => exact Src.ofSlice W ht ad 0 c [] (by simp) (fun j u hu => by simp at hu) (fun u hu => by cases hu)
  ·obtain ⟨b, o, cs, T, fr, rfl, h6, h7⟩ := ai h0
   refine Src.ofSlice W ht _ _ c _ (pd hk m) (fun j u hu => ?_) U
   obtain ⟨i, x, q, h8, h9, rfl⟩ := Hb hk m j u hu
   obtain ⟨ys, _, ag, ah⟩ := h7 i x h8
   cases ag
   rw [dz, fi W b (o + (i * k + q)) cs T fr h6, ← ev]
   exact ah q u h9
 have n := pd hk m
 have Q : ((l ++ m).map enc).flatten = (l.map enc).flatten ++ (m.map enc).flatten := by simp
 generalize (m.map enc).flatten = fm at J U n Q
 subst a6
 have ar : l.length * i.size ≤ cap * i.size := cN _ h2
 by_cases I : l.length + m.length ≤ cap
 ·have au : l.length * i.size + m.length * i.size ≤ cap * i.size := by rw [← cR]; exact cN _ I
  have ab := iD (P := P) G (off + l.length * i.size) e fm 0 p W hg (by rw [n]; omega) U
  have O : (Builtin.append_ #[t, t] ty #[.slice (some ⟨G, off, none⟩) l.length cap, .slice A m.length c]).run P W = .ok (.slice (some ⟨G, off, none⟩) (l.length + m.length) cap) (W.setRow G (p.toList.take (off + l.length * i.size) ++ fm ++ p.toList.drop (off + l.length * i.size + fm.length)).toArray) := by
   simp [Builtin.append_, aY ht, sizeOf, typeInfo, hi, J.len, I, J.cells, dz]
   simp only [gl] at ab
   rw [ab]
   simp
  refine .inl ⟨_, _, Z _ _ O, h _ _ [(G, _)] (by simpa using M.store _) (.inr ⟨G, off, cap, _, by rw [aF], rfl, by simpa using I, h3, ?_, ?_⟩)⟩
  ·simp only [dG, aF, cZ, fH, dv, n]
   rw [dK (by omega)]
   omega
  ·have hA : (p.toList.take (off + l.length * i.size)).length = off + l.length * i.size := by simp; omega
   show ((p.toList.take (off + l.length * i.size) ++ (fm ++ p.toList.drop (off + l.length * i.size + fm.length))).drop off).take ((l ++ m).length * i.size) = _
   rw [Q, List.drop_append, ig, hA, show off - (off + l.length * i.size) = 0 by omega, List.drop_zero, show off + l.length * i.size - off = l.length * i.size by omega, h5]
   rw [aF, cR, eZ, eZ, L, n, dI (by rw [L]; omega), show l.length * i.size + m.length * i.size - l.length * i.size = m.length * i.size by omega, dI (by rw [n]; omega)]
   simp
 ·have hold : (Builtin.firstCells i.size l.length (.slice (some ⟨G, off, none⟩) l.length cap)).run P W.drew = .ok ((l.map enc).flatten).toArray W.drew := by
   refine run_firstCells_some W.drew i.size l.length ⟨G, off, none⟩ l.length cap _ L (fun j u hu => ?_)
   rw [dz]
   show W.cell? ⟨G, off + j, none⟩ = some u
   rw [fi W G (off + j) p e (0, 0) hg]
   rw [← h5] at hu
   have hj : j < l.length * i.size := by have := (bF.1 hu).1; simp at this; omega
   rw [dB hj, dS] at hu
   simpa using hu
  have hlen : (l ++ m).length = l.length + m.length := aF
  have ak := grownCap_ge W (l.length + m.length) cap e
  have aj := ie W (l.length + m.length) cap e a1.2
  have O := run_append_grow_src (P := P) W t t ty e i z ht hi hz (some ⟨G, off, none⟩) l.length cap ((l.map enc).flatten) hold _ m.length _ J (by omega) (by have := a1.2; unfold maxLen at this; omega) (growslice_fits (by omega) (by rw [aa]; exact a1.1))
  have h6 := M.drew.alloc (.cells (((l.map enc).flatten ++ fm).toArray ++ Builtin.zeroCells z.cells (grownCap W (l.length + m.length) cap e - (l.length + m.length))) e (0, 0))
  have h7 := (ST.drop (A := (W.drew.heap.size, _) :: X) h6).perm (L' := X ++ ([(W.heap.size, _)] ++ Y)) (by simpa using (eY (a := (W.heap.size, _)) (l₁ := X) (l₂ := Y)).symm)
  refine .inl ⟨_, _, Z _ _ O, h _ _ _ h7 (jZ.Uj (.inr ⟨W.heap.size, grownCap W (l.length + m.length) cap e, _, by rw [hlen], rfl, by rw [hlen]; exact ak, aj, ?_, ?_⟩))⟩
  ·rw [Array.size_append, size_zeroCells, ae]
   simp only [dG, aF, L, n]
   rw [← cR, ← cR]
   congr 1
   omega
  ·rw [Array.toList_append, List.toList_toArray, hlen, Q, List.take_append_of_le_length (by simp only [aF, L, n]; rw [cR]; exact aX _), dI (by simp only [aF, L, n]; rw [cR]; exact aX _)]
end
end Go.Proofs.YtjjjihkifgdhgaaGreatDoor
namespace Go.Proofs.YtjjjihkifgdhgaaGreatDoor
open Go.RowKit
variable [M : Md]
section
variable {P : Program} {ops : Array Oper} {Q : Exit → Act → World → Prop} {S : Array Bool → World → Prop}
def yd (ops : Array Oper) (l : Array Bool) : Prop := ∀ j o, ops[j]? = some o → l.getD j true = true → ∀ e ∈ o.after, Region.binds .any e = true → l.getD e.on true = true
def HM (ops : Array Oper) : Nat → List Nat → Bool
 | _, [] => true
 | j, k :: r => (match ops[j]? with | some o => o.after.any (fun e => Region.binds .any e && e.on == k) | none => false) && HM ops k r
theorem Hz {l : Array Bool} (d : yd ops l) : ∀ (r : List Nat) (j i : Nat), HM ops j r = true → (j :: r).getLast? = some i → l.getD j true = true → l.getD i true = true
 | [], j, i, _, h, a => by simp at h; subst h; exact a
 | k :: r, j, i, h, m, a => by
  simp only [HM, bo] at h
  obtain ⟨h1, g⟩ := h
  cases b : ops[j]? with
  | none => rw [b] at h1; cases h1
  | some o =>
   rw [b] at h1
   simp only [Array.any_eq_true] at h1
   obtain ⟨n, p, h1⟩ := h1
   simp only [bo, ga] at h1
   have := d j o b a o.after[n] (Array.getElem_mem p) h1.1
   rw [h1.2] at this
   exact Hz d r k i g (by simpa [List.getLast?_cons_cons] using m) this
def G6 (ops : Array Oper) (i : Nat) (l : Array Bool) : Prop := yd ops l ∧ l.getD i true = false
theorem G6.Em {l : Array Bool} {i : Nat} (h : G6 ops i l) (j : Nat) (r : List Nat) (a : HM ops j r = true) (d : (j :: r).getLast? = some i) : l.getD j true = false := by
 cases b : l.getD j true with
 | false => rfl
 | true => have := Hz h.1 r j i a d b; rw [h.2] at this; cases this
theorem yd.start (n : Nat) (h : n = ops.size) : yd ops (Array.replicate n false) := by
 subst h
 intro j o d b
 have a : j < ops.size := (dF.1 d).1
 simp [a] at b
theorem yd.set {l : Array Bool} {i : Nat} (h : yd ops l) (u : i ∈ Region.ready .any ops l) : yd ops (l.setIfInBounds i true) := by
 intro j o t p e he n
 have up : ∀ {k : Nat}, l.getD k true = true → (l.setIfInBounds i true).getD k true = true := fun {k} hk => by
  by_cases d : i = k
  ·subst d
   by_cases m : i < l.size
   ·simp [m]
   ·simp [m]
  ·rw [jk true d]; exact hk
 by_cases b : i = j
 ·subst b
  obtain ⟨_, v, g, a⟩ := js.1 u
  rw [t] at g
  cases g
  refine up ?_
  have := a e he n
  by_cases m : e.on < l.size
  ·simp [m] at this ⊢; exact this
  ·simp [m]
 ·rw [jk true b] at p
  exact up (h j o t p e he n)
def CZ (P : Program) (ops : Array Oper) (S : Array Bool → World → Prop) (i : Nat) (o : Oper) (v : Value) (a : Act) : Prop :=
 (Region.wanted o (yielded ops a.tmps) = true ∧ ∀ l w, G6 ops i l → S l w → (execOp a.eval o).run P w = .ok (.value v) w) ∨
 (Region.wanted o (yielded ops a.tmps) = false ∧ v = undef)
theorem CZ.Um {i : Nat} {o : Oper} {v : Value} {a : Act} {l : Array Bool} (h : CZ P ops S i o v a) (hp : G6 ops i l) : YieldsIf P ops (S l) o v a :=
 h.imp (fun ⟨h1, b⟩ => ⟨h1, fun w hw => b l w hp hw⟩) id
def MI (P : Program) (ops : Array Oper) (Q : Exit → Act → World → Prop) (S : Array Bool → World → Prop) : Nat → Array Bool → Act → World → Prop
 | 0, l, a, w => Region.ready .any ops l = [] ∧ Q .normal a w
 | n + 1, l, a, w => (Region.ready .any ops l = [] → Q .normal a w) ∧
  ∀ i ∈ Region.ready .any ops l, wpOp P ops Q i (fun d b => S (l.setIfInBounds i true) b ∧ MI P ops Q S n (l.setIfInBounds i true) d b) a w
theorem LP : ∀ (n : Nat) (l : Array Bool) (a : Act) (w : World), MI P ops Q S n l a w → wpAny P .any ops Q n l a w
 | 0, _, _, _, h => h
 | n + 1, _, _, _, h => ⟨h.1, fun i g => wpOp_mono (fun b j d => LP n _ b j d.2) (h.2 i g)⟩
theorem OT {i j : Nat} {d t : Oper} {v : Value} (z : ops[j]? = some t) (m : d.apart ops t = true) (n : ∀ cs b, d.op ≠ .select cs b) (p : ∀ cs b, t.op ≠ .select cs b) (y : ∀ c a w, Q (.panic c) (a.put d.dst v) w → Q (.panic c) a w) {K : Act → World → Prop} {a : Act} {w : World} (A : CZ P ops S i d v a) (h : wpOp P ops Q j K (a.put d.dst v) w) :
  wpOp P ops Q j (fun g x => CZ P ops S i d v g ∧ K (g.put d.dst v) x) a w := by
 have h1 : YieldsIf P ops (fun w => ∃ l, G6 ops i l ∧ S l w) d v a := A.imp (fun ⟨h1, k⟩ => ⟨h1, fun w ⟨l, hp, hw⟩ => k l w hp hw⟩) id
 refine wpOp_mono (fun g x u => ⟨u.1.imp (fun ⟨h1, k⟩ => ⟨h1, fun l w hp hw => k w ⟨l, hp, hw⟩⟩) id, u.2⟩) (wpOp_putIf (S := fun w => ∃ l, G6 ops i l ∧ S l w) z m n p y h1 h)
theorem Jk {i : Nat} {A : Oper} {v : Value} (Z : ops[i]? = some A) (x : ∀ (j : Nat) (o : Oper) cs b, ops[j]? = some o → o.op ≠ .select cs b) (hQ : ∀ c a w, Q (.panic c) (a.put A.dst v) w → Q (.panic c) a w) (hm : ∀ l w, S (l.setIfInBounds i true) w → S l w) :
  ∀ (n : Nat) (l : Array Bool) (a : Act) (w : World), (∀ j E, ops[j]? = some E → j ≠ i → l.getD j true = false → (∀ e ∈ E.after, Region.binds .any e = true → e.on ≠ i) → A.apart ops E = true) →
   yd ops l → i ∈ Region.ready .any ops l → CZ P ops S i A v a → S (l.setIfInBounds i true) w → MI P ops Q S n (l.setIfInBounds i true) (a.put A.dst v) w → MI P ops Q S (n + 1) l a w := by
 intro n
 induction n with
 | zero =>
  intro l a w _ R t T G H
  refine ⟨fun h => (by rw [h] at t; cases t), fun j J => ?_⟩
  by_cases d : j = i
  ·subst d
   exact (T.Um ⟨R, (js.1 t).1⟩).wpOp Z (hm l w G) ⟨G, H⟩
  ·have := ready_mono J d
   rw [H.1] at this
   cases this
 | succ n ih =>
  intro l a w m R t T G H
  refine ⟨fun h => (by rw [h] at t; cases t), fun j J => ?_⟩
  by_cases d : j = i
  ·subst d
   exact (T.Um ⟨R, (js.1 t).1⟩).wpOp Z (hm l w G) ⟨G, H⟩
  have h1 := H.2 j (ready_mono J d)
  obtain ⟨u, E, z, I⟩ := js.1 J
  have M : ∀ e ∈ E.after, Region.binds .any e = true → e.on ≠ i := fun e he hb Y => by
   have y := I e he hb
   have h0 := (js.1 t).1
   rw [Y] at y
   rcases Nat.lt_or_ge i l.size with U | U
   ·simp [U] at h0 y; rw [h0] at y; cases y
   ·simp [Array.getElem?_eq_none U] at y
  have y := OT z (m j E z d u M) (fun cs b => x i A cs b Z) (fun cs b => x j E cs b z) hQ T h1
  have p : ∀ k ok, ops[k]? = some ok → k ≠ i → (l.setIfInBounds j true).getD k true = false → (∀ e ∈ ok.after, Region.binds .any e = true → e.on ≠ i) → A.apart ops ok = true := fun k ok hk a1 O a6 => by
   refine m k ok hk a1 ?_ a6
   by_cases L : j = k
   ·subst L; exact u
   ·rw [jk true L] at O; exact O
  have g : (l.setIfInBounds i true).setIfInBounds j true = (l.setIfInBounds j true).setIfInBounds i true := Array.setIfInBounds_comm _ _ (Ne.symm d)
  refine wpOp_mono (fun a' w' W => ?_) y
  have h4 : S ((l.setIfInBounds j true).setIfInBounds i true) w' := by rw [← g]; exact W.2.1
  refine ⟨hm _ w' h4, ih (l.setIfInBounds j true) a' w' p (R.set J) (ready_mono t (Ne.symm d)) W.1 h4 ?_⟩
  rw [← g]
  exact W.2.2
end
theorem T6 {ro : Md} {P : Program} {o : Oper} {a : Act} {w : World} {K : Act → World → Prop} {Q : Exit → Act → World → Prop} (i : ∀ c, o.op ≠ .defer c) (h : o.wp P a w K Q) (k : ¬ LetsOut Q) : o.wpIn ro.F 0 P a w K Q := by
 refine ⟨fun _ _ => trivial, ?_⟩
 rw [Oper.semAt_eq _ _ _ i]
 unfold Oper.wp at h
 cases g : (execOp a.eval o).run P w with
 | ok x b =>
  rw [g] at h
  cases x with
  | value v => exact h
  | skip => exact h
  | defer d => exact h
  | enter f args => exact IQ (cV h fun e j he => by cases e with
   | returned v => exact he
   | panicked c => exact he
   | outgrown => exact he)
  | row r args => exact ⟨fun e => (nomatch (show (none : Option Nat).isSome = true from e)), fun c cs _ => by
    obtain ⟨v, b, r, s⟩ := h c cs
    exact ⟨v, b, r, (stepsIn_wide (P := P)).2 s⟩⟩
  | _ => exact h.elim
 | halt z b =>
  rw [g] at h
  cases z with
  | panic v => exact h
  | _ => exact h.elim
def MG (ops : Array Oper) : Prop := ∀ (i : Nat) (o : Oper), ops[i]? = some o → ∀ c, o.op ≠ .defer c
theorem DJ {ro : Md} {P : Program} {ops : Array Oper} {Q : Exit → Act → World → Prop} (g : MG ops) (d : ¬ LetsOut Q) : ∀ (n : Nat) (l : Array Bool) (a : Act) (w : World), wpAny P .any ops Q n l a w → wpAnyIn ro.F 0 P .any ops Q n l a w
 | 0, _, _, _, h => h
 | n + 1, l, a, w, h => ⟨h.1, fun i k => by
  have b := h.2 i k
  unfold wpOp at b
  unfold wpOpIn
  cases j : ops[i]? with
  | none => rw [j] at b; exact DJ g d n _ a w b
  | some o =>
   rw [j] at b
   simp only at b ⊢
   split
   ·rename_i hw
    rw [bB hw] at b
    rcases b with b | b
    ·exact Oper.wpIn_mono (fun a w h => DJ g d n _ a w h) (T6 (g i o j) b d)
    ·exact absurd b.2 d
   ·rename_i hw
    rw [bE hw] at b
    exact ⟨fun _ _ => trivial, DJ g d n _ _ w b⟩⟩
def M6 (l : List Oper) : Bool := l.all fun o => match o.op with
 | .defer _ => false
 | _ => true
theorem Q9 {l : List Oper} (h : M6 l = true) : MG l.toArray := fun i o a c b => by
 have hm : o ∈ l := by
  rw [gD] at a
  exact cY a
 have := ed.1 h o hm
 rw [b] at this
 cases this
theorem SJ [M : Md] {n : Nat} {Q : qj} : ¬ LetsOut (lift n Q) := fun ⟨_, _, h⟩ => h
def PX (P : Program) (n : Nat) (ops : Array Oper) (Q : qj) (S : Array Bool → World → Prop) (fuel : Nat) (listed : Array Bool) (E : Nat → Value) (W : World) : Prop :=
 yd ops listed → ∀ a, Ag n a E → MI P ops (lift n Q) S fuel listed a W
section
variable {P : Program} {n : Nat} {Q : qj} {E : Nat → Value} {W : World} {ops : Array Oper} {S : Array Bool → World → Prop} {fuel : Nat} {listed : Array Bool}
theorem Kz {id : Nat} {l : List Oper} (S : Array Bool → World → Prop) (hm : P.follows .mixedOrders = true) (h : PX P n l.toArray Q S l.length (Array.replicate l.length false) E W.drew) (b : M6 l = true) : CW P n (.region id l.toArray true) Q E W := fun a ha =>
 wpIn_region_any hm (DJ (Q9 b) SJ _ _ _ _ (LP _ _ _ _ (h (yd.start _ (by simp)) a ha)))
def Cj (ops : Array Oper) (listed : Array Bool) (i : Nat) : Bool := Region.noSelect ops && Region.free .any ops listed i && (Region.ready .any ops listed).contains i
theorem lf {o : Oper} {dd : Nat} {v : Value} (i : Nat) (g : ops[i]? = some o) (hk : Cj ops listed i = true) (hw : sW n ops E o) (m : o.dst = some dd) (p : dd < n) (hm : ∀ l w, S (l.setIfInBounds i true) w → S l w) (k : S (listed.setIfInBounds i true) W) (t : ∀ l W, G6 ops i l → S l W → lQ P E o W v W) (h : PX P n ops Q S fuel (listed.setIfInBounds i true) (nS E dd v) W) : PX P n ops Q S (fuel + 1) listed E W := fun d a ha => by
 simp only [Cj, bo] at hk
 have j : i ∈ Region.ready .any ops listed := by simpa using hk.2
 exact Jk g (Region.noSelect_spec hk.1.1) (fun _ _ _ h => Ke h) hm fuel listed a W (Region.free_spec g hk.1.2) d j (.inl ⟨hw.of ha, fun l w hp b => by rw [ha.eval]; exact t l w hp b⟩) k (by rw [m]; exact h (d.set j) _ (ha.put p v))
theorem sL {A : Value → Prop} {o : Oper} {dd : Nat} (i : Nat) (g : ops[i]? = some o) (hk : Cj ops listed i = true) (hw : sW n ops E o) (d : o.dst = some dd) (j : dd < n) (hm : ∀ l w, S (l.setIfInBounds i true) w → S l w) (b : S (listed.setIfInBounds i true) W) (k : ∃ p, A p ∧ ∀ W, lQ P E o W p W) (h : ∀ p, A p → PX P n ops Q S fuel (listed.setIfInBounds i true) (nS E dd p) W) : PX P n ops Q S (fuel + 1) listed E W := by
 obtain ⟨p, h1, a⟩ := k
 exact lf i g hk hw d j hm b (fun _ W _ _ => a W) (h p h1)
theorem Mn {o : Oper} {dd : Nat} (i : Nat) (d : ops[i]? = some o) (hk : Cj ops listed i = true) (hw : ∀ a, Ag n a E → Region.wanted o (yielded ops a.tmps) = false) (k : o.dst = some dd) (m : dd < n) (hm : ∀ l w, S (l.setIfInBounds i true) w → S l w) (j : S (listed.setIfInBounds i true) W) (h : PX P n ops Q S fuel (listed.setIfInBounds i true) (nS E dd undef) W) : PX P n ops Q S (fuel + 1) listed E W := fun b a ha => by
 simp only [Cj, bo] at hk
 have g : i ∈ Region.ready .any ops listed := by simpa using hk.2
 exact Jk d (Region.noSelect_spec hk.1.1) (fun _ _ _ h => Ke h) hm fuel listed a W (Region.free_spec d hk.1.2) b g (.inr ⟨hw a ha, rfl⟩) j (by rw [k]; exact h (b.set g) _ (ha.put m _))
theorem TY {o : Oper} {dd j t : Nat} {want : Bool} (i : Nat) (m : ops[i]? = some o) (hk : Cj ops listed i = true) (k : o.guard = some (j, want)) (p : (ops[j]?).bind (·.dst) = some t) (v : t < n) (b : E t = .bool (!want)) (g : o.dst = some dd) (u : dd < n) (hm : ∀ l w, S (l.setIfInBounds i true) w → S l w) (d : S (listed.setIfInBounds i true) W) (h : PX P n ops Q S fuel (listed.setIfInBounds i true) (nS E dd undef) W) : PX P n ops Q S (fuel + 1) listed E W :=
 Mn i m hk (fun a ha => by have x := ha.yield p v b; simp [Region.wanted, k, x]) g u hm d h
theorem Sa {o : Oper} {dd j t : Nat} {want : Bool} (i : Nat) (m : ops[i]? = some o) (hk : Cj ops listed i = true) (k : o.guard = some (j, want)) (p : (ops[j]?).bind (·.dst) = some t) (v : t < n) (b : E t = undef) (g : o.dst = some dd) (u : dd < n) (hm : ∀ l w, S (l.setIfInBounds i true) w → S l w) (d : S (listed.setIfInBounds i true) W) (h : PX P n ops Q S fuel (listed.setIfInBounds i true) (nS E dd undef) W) : PX P n ops Q S (fuel + 1) listed E W :=
 Mn i m hk (fun a ha => by have x := ha.Hs p v b; simp [Region.wanted, k, x]) g u hm d h
theorem Sp {o : Oper} {dd : Nat} (i : Nat) (w : ops[i]? = some o) (g : Region.ready .any ops listed = [i]) (hw : sW n ops E o) (l : o.dst = some dd) (m : dd < n) (h : ng P E o W fun v W' => S (listed.setIfInBounds i true) W' ∧ PX P n ops Q S fuel (listed.setIfInBounds i true) (nS E dd v) W') : PX P n ops Q S (fuel + 1) listed E W := fun k a ha => by
 have b : i ∈ Region.ready .any ops listed := by rw [g]; simp
 refine ⟨fun u => (by rw [u] at g; cases g), fun j p => ?_⟩
 rw [g] at p
 obtain rfl := bP.1 p
 unfold wpOp
 simp only [w]
 rw [bB (hw.of ha)]
 refine .inl ?_
 unfold Oper.wp
 rw [ha.eval]
 rcases h with ⟨v, W', h1, d⟩ | ⟨W', h1, d⟩ | ⟨f, args, h1, d⟩
 ·rw [h1, jf]; exact ⟨d.1, by rw [l]; exact d.2 (k.set b) _ (ha.put m v)⟩
 ·rw [h1, Oper.upon_skip]; exact ⟨d.1, by rw [l]; exact d.2 (k.set b) _ (ha.put m _)⟩
 ·rw [h1, jg]
  refine cV d ?_
  rintro e x ⟨v, rfl, t⟩
  exact ⟨t.1, by simp only [l]; exact t.2 (k.set b) _ (ha.put m v)⟩
theorem TI {o : Oper} (i : Nat) (u : ops[i]? = some o) (g : Region.ready .any ops listed = [i]) (hw : sW n ops E o) (l : o.dst = none) (h : ng P E o W fun _ W' => S (listed.setIfInBounds i true) W' ∧ PX P n ops Q S fuel (listed.setIfInBounds i true) E W') : PX P n ops Q S (fuel + 1) listed E W := fun k a ha => by
 have b : i ∈ Region.ready .any ops listed := by rw [g]; simp
 refine ⟨fun t => (by rw [t] at g; cases g), fun j m => ?_⟩
 rw [g] at m
 obtain rfl := bP.1 m
 unfold wpOp
 simp only [u]
 rw [bB (hw.of ha)]
 refine .inl ?_
 unfold Oper.wp
 rw [ha.eval]
 rcases h with ⟨v, W', h1, d⟩ | ⟨W', h1, d⟩ | ⟨f, args, h1, d⟩
 ·rw [h1, jf, l]; exact ⟨d.1, d.2 (k.set b) _ (ha.zM _)⟩
 ·rw [h1, Oper.upon_skip, l]; exact ⟨d.1, d.2 (k.set b) _ (ha.zM _)⟩
 ·rw [h1, jg]
  refine cV d ?_
  rintro e w ⟨v, rfl, p⟩
  simp only [l]
  exact ⟨p.1, p.2 (k.set b) _ (ha.zM _)⟩
theorem kT (d : Region.ready .any ops listed = []) (h : Q .normal E W) : PX P n ops Q S fuel listed E W := fun _ a ha => by
 cases fuel with
 | zero => exact ⟨d, E, ha, h⟩
 | succ f => exact ⟨fun _ => ⟨E, ha, h⟩, fun i b => by rw [d] at b; cases b⟩
theorem Ar {p : Prop} {b : Bool} (a : b = true) (h : b = false) : p := by rw [a] at h; cases h
theorem nu {a : Array Bool} (b : listed = a) (h : PX P n ops Q S fuel a E W) : PX P n ops Q S fuel listed E W := by rw [b]; exact h
theorem HJ {o t : Oper} {d u : Nat} (i j : Nat) (M : ops[i]? = some o) (O : ops[j]? = some t) (p : Region.ready .any ops listed = [i, j]) (hw : sW n ops E o) (z : sW n ops E t) (l : o.dst = some d) (x : t.dst = some u) (m : d < n) (y : u < n) (h : ng P E o W fun v W' => S (listed.setIfInBounds i true) W' ∧ PX P n ops Q S fuel (listed.setIfInBounds i true) (nS E d v) W') (J : ng P E t W fun v W' => S (listed.setIfInBounds j true) W' ∧ PX P n ops Q S fuel (listed.setIfInBounds j true) (nS E u v) W') : PX P n ops Q S (fuel + 1) listed E W := fun w a ha => by
 have key : ∀ (k : Nat) (q : Oper) (e : Nat), ops[k]? = some q → k ∈ Region.ready .any ops listed → sW n ops E q → q.dst = some e → e < n → (ng P E q W fun v W' => S (listed.setIfInBounds k true) W' ∧ PX P n ops Q S fuel (listed.setIfInBounds k true) (nS E e v) W') →
   wpOp P ops (lift n Q) k (fun I A => S (listed.setIfInBounds k true) A ∧ MI P ops (lift n Q) S fuel (listed.setIfInBounds k true) I A) a W := by
  intro k q e hk b hw l m h
  unfold wpOp
  simp only [hk]
  rw [bB (hw.of ha)]
  refine .inl ?_
  unfold Oper.wp
  rw [ha.eval]
  rcases h with ⟨v, W', h1, g⟩ | ⟨W', h1, g⟩ | ⟨f, args, h1, g⟩
  ·rw [h1, jf]; exact ⟨g.1, by rw [l]; exact g.2 (w.set b) _ (ha.put m v)⟩
  ·rw [h1, Oper.upon_skip]; exact ⟨g.1, by rw [l]; exact g.2 (w.set b) _ (ha.put m _)⟩
  ·rw [h1, jg]
   refine cV g ?_
   rintro e A ⟨v, rfl, G⟩
   exact ⟨G.1, by simp only [l]; exact G.2 (w.set b) _ (ha.put m v)⟩
 refine ⟨fun L => (by rw [L] at p; cases p), fun k hk => ?_⟩
 rw [p] at hk
 rcases aR.1 hk with rfl | hk
 ·exact key _ o d M (by rw [p]; simp) hw l m h
 ·obtain rfl := bP.1 hk
  exact key _ t u O (by rw [p]; simp) z x y J
theorem lJ {l : Array Bool} {i j : Nat} {A : Prop} (a : Nat.beq i j = false) (h : (l.setIfInBounds i true).getD j true = false → A) : l.getD j true = false → A := fun b => h (by
 rw [jk true (fun e => by subst e; simp at a)]; exact b)
end
theorem Bj.at {α : Type} {e : TypeId} {enc : α → List Value} {k : Nat} {v : Value} {l : List α} {R : List (Nat × Obj)} (h : jZ e enc k v l R) (hk : ∀ x, (enc x).length = k) {p : Value} {i : Nat} (hp : Bj R k p i) {x : α} (g : l[i]? = some x) : At (CK R) p (enc x) := by
 obtain ⟨b, a, cap, rfl, rfl, _, _, _, _, rfl, d⟩ := Bl h hk hp g
 exact ⟨b, i * k, a, e, (0, 0), rfl, by simp [CK], d⟩
theorem wH.form {κ β : Type} {kenc : κ → Value} {vf : β → Value} {μ : km} {v : Value} {l : List (κ × β)} (h : wH kenc vf μ v l) : ∃ r, v = .map r := by
 rcases h with ⟨h, _⟩ | ⟨m, es, clock, h, _⟩
 ·exact ⟨_, h⟩
 ·exact ⟨_, h⟩
noncomputable def Hr {β : Type} (l : List (ByteArray × β)) : Option (List ByteArray) :=
 open Classical in if (l.map (·.1)).Nodup ∧ (∀ p ∈ l, p.1.size ≤ maxLen) ∧ l.length * 16 ≤ 140737488355328 then some (vo (l.map (·.1))) else none
def OE {κ κ2 β α : Type} (a : Nat) (mk : κ → κ2 → α) (l : List (κ × List (κ2 × β))) : Option (List α) :=
 if (l.flatMap (fun p => p.2.map (fun q => mk p.1 q.1))).length * a ≤ 140737488355328 ∧ (l.flatMap (fun p => p.2.map (fun q => mk p.1 q.1))).length ≤ maxLen then some (l.flatMap (fun p => p.2.map (fun q => mk p.1 q.1))) else none
end Go.Proofs.YtjjjihkifgdhgaaGreatDoor
namespace Go.Proofs.YtjjjihkifgdhgaaGreatDoor
open Go.RowKit
variable [M : Md]
section
variable {P : Program} {n : Nat} {Q : qj} {E : Nat → Value} {W : World} {ops : Array Oper} {rest : List Oper}
variable {dd : Bool} {α : Type} {enc : α → List Value} {k : Nat} {μ : km} {v : Value}
variable {d : Option Nat} {ty : TypeId} {pos : String} {af : Array Edge} {g : Option (Nat × Bool)} {F : Nat → Prop} {w : World} {L : List (Nat × Obj)}
theorem OG {x y : Operand} {ats : Array TypeId} {k : IntKind} {a b : Int} (h : jK E x = .int k a) (i : jK E y = .int k b) :
  lQ P E ⟨d, .call ⟨.builtin .max, #[x, y], ats⟩, ty, pos, af, g⟩ W (.int k (if b > a then b else a)) W := by
 show (do let d ← resolve (jK E) ⟨.builtin .max, #[x, y], ats⟩ ty; invoke d.target d.args : Sem Next).run P W = _
 simp [resolve, invoke, h, i, builtin, Builtin.max_, Builtin.max2]
end
end Go.Proofs.YtjjjihkifgdhgaaGreatDoor
namespace Go.Proofs.YtjjjihkifgdhgaaGreatDoor
open Go.RowKit
variable {dd : Bool}
section
variable {P : Program} {fn : Func} {R : Ending → World → Prop} {E : Nat → Value} {W : World}
theorem ra {a : Tmp} {t0 : TypeId} {a0 : Addr} {v0 : Value} {b : Tmp} {v1 : Value} (g : fn.results = #[.cell a t0, .tmp b]) (d : E a = .pointer (some a0)) (j : (Instr.loadAt t0 (.pointer (some a0))).run P W = .ok v0 W) (h1 : E b = v1) (h : R (.returned (.tuple #[v0, v1])) W) : xH P fn R .ret E W :=
 ⟨.tuple #[v0, v1], fun tmps i => by
  have k : (loadVar t0 a0).run P W = .ok v0 W := by simpa [Instr.loadAt, Instr.sureAddr] using j
  simp [results, g, i, asAddr, d, k, h1], h⟩
theorem Hd {a : Tmp} {v0 : Value} {b : Tmp} {v1 : Value} {d : Tmp} {v2 : Value} (j : fn.results = #[.tmp a, .tmp b, .tmp d]) (g : E a = v0) (h1 : E b = v1) (i : E d = v2) (h : R (.returned (.tuple #[v0, v1, v2])) W) : xH P fn R .ret E W :=
 ⟨.tuple #[v0, v1, v2], fun tmps k => by
  skip
  simp [results, j, k, asAddr, g, h1, i], h⟩
end
end Go.Proofs.YtjjjihkifgdhgaaGreatDoor
namespace Go.Proofs.YtjjjihkifgdhgaaGreatDoor
open Go.RowKit
variable [M : Md]
section
variable {x y : Nat × Obj} {A B C L R S : List (Nat × Obj)}
theorem Pz : (x :: A).Perm (x :: A) := .refl _
theorem Pb (h : A.Perm (x :: B)) : (y :: A).Perm (x :: y :: B) := (h.cons y).trans (.swap ..)
theorem Pr (h : A.Perm (x :: B)) : (S ++ A).Perm (x :: (S ++ B)) := (h.append_left S).trans eY
theorem Qz : (R ++ A).Perm (R ++ A) := .refl _
theorem Qb (h : A.Perm (R ++ B)) : (y :: A).Perm (R ++ (y :: B)) := (h.cons y).trans List.perm_middle.symm
theorem Qr (h : A.Perm (R ++ B)) : (S ++ A).Perm (R ++ (S ++ B)) := (h.append_left S).trans (fC S R B)
def mB (L L' : List (Nat × Obj)) : Prop := ∃ M, L.Perm (L' ++ M)
theorem Sn : mB L [] := ⟨L, .refl _⟩
theorem St : mB L L := ⟨[], by rw [bI]⟩
theorem Sb (h : L.Perm (x :: A)) (k : mB A B) : mB L (x :: B) := let ⟨M, m⟩ := k; ⟨M, h.trans (m.cons x)⟩
theorem Sr (h : L.Perm (R ++ A)) (k : mB A B) : mB L (R ++ B) := let ⟨M, m⟩ := k; ⟨M, by rw [aM]; exact h.trans (m.append_left R)⟩
theorem Kb (k : mB A B) : mB (x :: A) (x :: B) := Sb Pz k
theorem Kr (k : mB A B) : mB (R ++ A) (R ++ B) := Sr Qz k
theorem Db (k : mB A B) : mB (x :: A) B := let ⟨M, m⟩ := k; ⟨x :: M, (m.cons x).trans List.perm_middle.symm⟩
theorem Dr (k : mB A B) : mB (R ++ A) B := let ⟨M, m⟩ := k; ⟨R ++ M, (m.append_left R).trans (fC R B M)⟩
theorem mB.mem (s : mB L A) : ∀ p, p ∈ A → p ∈ L := fun p hp => let ⟨M, m⟩ := s; m.mem_iff.2 (cI _ hp)
theorem ST.jy {dd : Bool} {F : Nat → Prop} {w W : World} {μ : km} (h : ST dd F w W μ L) (s : mB L A) : ST dd F w W μ A := let ⟨M, m⟩ := s; (h.perm m).sublist (List.sublist_append_left A M)
theorem nC.jy {μ : km} {W : World} (h : nC μ L W) (s : mB L A) : nC μ A W := h.sub (kj.refl _) s.mem
theorem nC.wV {μ μ' : km} {W : World} (h : nC μ L W) (a : kj μ' μ) (s : mB L A) : nC μ' A W := h.sub a s.mem
theorem Cn : L.Perm ([] ++ L) := .refl _
theorem Cb (h : L.Perm (x :: A)) (k : A.Perm (B ++ C)) : L.Perm ((x :: B) ++ C) := h.trans (k.cons x)
theorem Cr (h : L.Perm (R ++ A)) (k : A.Perm (B ++ C)) : L.Perm ((R ++ B) ++ C) := by rw [aM]; exact h.trans (k.append_left R)
theorem C0 (k : L.Perm (B ++ C)) : L.Perm (([] ++ B) ++ C) := k
theorem Tn : ([] ++ A).Perm A := .refl _
theorem Tb (h : (A ++ B).Perm C) : ((x :: A) ++ B).Perm (x :: C) := h.cons x
theorem Tr (h : (A ++ B).Perm C) : ((R ++ A) ++ B).Perm (R ++ C) := by rw [aM]; exact h.append_left R
theorem Nb (h : L.Perm (x :: A)) (k : A.Perm B) : L.Perm (x :: B) := h.trans (k.cons x)
theorem Nr (h : L.Perm (R ++ A)) (k : A.Perm B) : L.Perm (R ++ B) := h.trans (k.append_left R)
theorem Nz : L.Perm L := .refl _
theorem UT {R' R1 : List (Nat × Obj)} (hp : R.Perm (R' ++ R1)) : (R ++ A).Perm (R' ++ (R1 ++ A)) := by rw [← aM]; exact hp.append_right A
theorem Mh : x ∈ x :: A := .head _
theorem Mt (h : x ∈ A) : x ∈ y :: A := .tail _ h
theorem Ma (h : x ∈ A) : x ∈ R ++ A := dU _ h
theorem Ml (h : x ∈ R) : x ∈ R ++ A := cI _ h
end
section
variable {dd : Bool} {F : Nat → Prop} {w W : World} {μ : km} {L L0 L1 Y R : List (Nat × Obj)}
theorem ST.Kp (h : ST dd kx w W μ L) (s : mB L L1) : uj dd [] L1 w W := let ⟨_, m⟩ := s; (h.perm m).TK
theorem ST.lO (h : ST dd (keys L0) w W μ L) (s : mB L L1) : uj dd L0 L1 w W := let ⟨_, m⟩ := s; (h.perm m).TQ
theorem ST.J1 : ∀ {R : List (Nat × Obj)} {μ : km}, ST dd F w W μ (R ++ Y) → ∃ μ', ST dd F w W μ' Y ∧ kj μ μ' ∧ Lo F w μ μ' ∧ ∀ b o, (b, o) ∈ R → μ' b = some o
 | [], μ, h => ⟨μ, h, kj.refl _, Lo.refl, fun _ _ h => by cases h⟩
 | (g, o) :: R, μ, h => by
  have d : ST dd F w W μ ([] ++ (g, o) :: (R ++ Y)) := h
  obtain ⟨μ', i, a2, a3, a4⟩ := ST.J1 (R := R) (ST.IR (A := []) d)
  refine ⟨μ', i, (ST.Ix (A := []) d).trans a2, (ST.OL (A := []) d).trans a3, fun b j a => ?_⟩
  rcases aR.1 a with a | a
  ·cases a; exact a2 _ _ (bB rfl)
  ·exact a4 b j a
theorem ST.Pk {α : Type} {e' : TypeId} {enc : α → List Value} {k : Nat} {v : Value} {l : List α} (a : ST dd F w W μ (R ++ Y)) (h : jZ e' enc k v l R) (hk : ∀ x, (enc x).length = k) : ∃ μ', ST dd F w W μ' Y ∧ kj μ μ' ∧ Lo F w μ μ' ∧ Sl (Pl enc) k μ' v l := by
 obtain ⟨μ', b, a2, a3, a4⟩ := ST.J1 a
 exact ⟨μ', b, a2, a3, h.sl hk a4⟩
section
variable {P : Program} {n : Nat} {Q : qj} {E : Nat → Value} {V : World} {id : Nat} {l : List Oper} {A B C : List (Nat × Obj)}
theorem kI (b : nC μ A V.drew) (hm : P.follows .mixedOrders = true) (h : PX P n l.toArray Q (fun _ W => nC μ A W) l.length (Array.replicate l.length false) E V.drew) (a : M6 l = true := by kernel_rfl) : CW P n (.region id l.toArray true) Q E V := Kz _ hm h a
theorem vx (i : Nat) (b : nC μ A V.drew) (h1 : nC μ B V.drew) (hm : P.follows .mixedOrders = true) (h : PX P n l.toArray Q (fun l W => nC μ A W ∧ (l.getD i true = false → nC μ B W)) l.length (Array.replicate l.length false) E V.drew) (a : M6 l = true := by kernel_rfl) : CW P n (.region id l.toArray true) Q E V := Kz _ hm h a
end
structure ni (μ : km) (L0 : List (Nat × Obj)) (w : World) : Prop where
 H : Fl L0 w
 N : (L0.map (·.1)).Nodup
 S : kj μ (uK w L0)
theorem ST.H9 (h : ni μ L0 w) : ST dd (keys L0) w w μ L0 := (ST.SO h.H h.N).lE h.S
end
section
variable {dd : Bool} {P : Program} {E : Nat → Value} {W : World} {d : Option Nat} {ty : TypeId} {pos : String} {af : Array Edge} {g : Option (Nat × Bool)} {F : Nat → Prop} {w : World} {μ : km} {L : List (Nat × Obj)}
theorem jR {K : Value → World → Prop} {B : List (Nat × Obj)} {t : TypeId} {x y : Operand} (v : Value) {b off : Nat} {cs : Array Value} {T : TypeId} (a : Array Value) (i : ST dd F w W μ ((b, .cells cs T (0, 0)) :: B)) (m : jK E x = .pointer (some ⟨b, off, none⟩)) (n : jK E y = v) (j : ∀ w, (sizeOf t).run P w = .ok v.cells.size w) (h1 : ∀ u ∈ v.cells.toList, u.oneCell' = true) (l : off + v.cells.size ≤ cs.size) (k : (cs.toList.take off ++ v.cells.toList ++ cs.toList.drop (off + v.cells.size)).toArray = a) (h : ∀ W', ST dd F w W' μ ((b, .cells a T (0, 0)) :: B) → K undef W') : ng P E ⟨d, .store t x y, ty, pos, af, g⟩ W K := Rc [] v a i m n j h1 l k h
end
section
variable {dd : Bool}
variable {P : Program} {n : Nat} {Q : qj} {E : Nat → Value} {W : World} {ops : Array Oper} {rest : List Oper}
 {d : Option Nat} {ty : TypeId} {pos : String} {af : Array Edge} {g : Option (Nat × Bool)}
 {F : Nat → Prop} {w : World} {μ : km} {L : List (Nat × Obj)}
theorem nW {K : Value → World → Prop} {α : Type} {e t : TypeId} {enc : α → List Value} {k a : Nat} {z v vs : Value} {l m r : List α} {R Y : List (Nat × Obj)} {x y : Operand} {i : TypeInfo} (b : ST dd F w W μ (R ++ Y)) (hk : ∀ x, (enc x).length = k) (n : 0 < k) (h1 : ∀ x, ∀ u ∈ enc x, u.oneCell' = true) (O : P.underlying t = some (.slice e)) (L : P.info? e = some i) (U : i.zero = some z) (A : z.cells.size = k) (p : i.size = k) (j : i.bytes = a) (Q : jK E x = v) (T : jK E y = vs) (I : jZ e enc k v l R) (M : Sl (Pl enc) k (hp W) vs m) (J : mE a l m = some r) (h : ∀ W' G R', ST dd F w W' μ (R' ++ Y) → jZ e enc k G r R' → K G W') : ng P E ⟨d, .call ⟨.builtin .append, #[x, y], #[t, t]⟩, ty, pos, af, g⟩ W K :=
 Kd [] b hk n h1 O L U A p j Q T I M J h
end
section
variable {dd : Bool}
variable {P : Program} {E : Nat → Value} {W : World} {d : Option Nat} {ty : TypeId} {pos : String} {af : Array Edge} {g : Option (Nat × Bool)}
 {F : Nat → Prop} {w : World} {μ : km} {L : List (Nat × Obj)}
theorem MQ {K : Value → World → Prop} {α : Type} {e : TypeId} {enc : α → List Value} {k : Nat} {l : List α} {f : FuncId} {fv : Operand} {ax : Array Operand} {ats : Array TypeId} {caps : Array Value} {args : List Value} (Y : List (Nat × Obj)) (a : ST dd F w W μ Y) (i : jK E fv = .func (.func f) #[] caps) (he : ∀ args w, (callFunc f args).run P w = .ok (.enter f args) w) (ha : ax.map (jK E) ++ caps = args.toArray) (b : lV dd P f args W e enc k l) (h : ∀ W' v μ' R, ST dd F w W' μ' (R ++ Y) → kj μ μ' → Lo F w μ μ' → jZ e enc k v l R → K v W') : ng P E ⟨d, .call ⟨.value fv, ax, ats⟩, ty, pos, af, g⟩ W K :=
 M7 [] Y a i he ha b h
end
section
variable {dd : Bool}
variable {P : Program} {E : Nat → Value} {W : World} {d : Option Nat} {ty : TypeId} {pos : String} {af : Array Edge} {g : Option (Nat × Bool)}
 {F : Nat → Prop} {w : World} {μ : km} {L : List (Nat × Obj)} {α : Type} {e' : TypeId} {enc : α → List Value} {k : Nat} {v : Value} {l : List α} {R : List (Nat × Obj)}
theorem Dy {K : Value → World → Prop} {Y : List (Nat × Obj)} {t : TypeId} {x y : Operand} {p u : Value} {i : Nat} {x0 x1 : α} (a : ST dd F w W μ (R ++ Y)) (h : jZ e' enc k v l R) (hk : ∀ x, (enc x).length = k) (h1 : ∀ x, ∀ u ∈ enc x, u.oneCell' = true) (n : jK E x = p) (z : jK E y = u) (hu : u.cells = (enc x1).toArray) (hp : Bj R k p i) (m : l[i]? = some x0) (j : ∀ w, (sizeOf t).run P w = .ok k w) (b : ∀ W' R', ST dd F w W' μ (R' ++ Y) → jZ e' enc k v (l.set i x1) R' → K undef W') : ng P E ⟨d, .store t x y, ty, pos, af, g⟩ W K :=
 Nf [] a h hk h1 n z hu hp m j b
end
section
variable {dd : Bool}
variable {P : Program} {E : Nat → Value} {W : World} {d : Option Nat} {ty : TypeId} {pos : String} {af : Array Edge} {g : Option (Nat × Bool)}
 {F : Nat → Prop} {w : World} {μ : km} {L : List (Nat × Obj)} {α : Type} {e' : TypeId} {enc : α → List Value} {k : Nat} {v : Value} {l : List α} {R : List (Nat × Obj)}
theorem CO {K : Value → World → Prop} (z : α) {Y : List (Nat × Obj)} {t e : TypeId} {x : Operand} {u b : Value} {i : Nat} (a : ST dd F w W μ (R ++ Y)) (h : jZ e' enc k v l R) (hk : ∀ x, (enc x).length = k) (h1 : ∀ x, ∀ u ∈ enc x, u.oneCell' = true) (n : P.underlying t = some (.slice e)) (y : ∀ w, (zeroValue e).run P w = .ok b w) (hu : AZ k v i u) (m : b.cells = (enc z).toArray) (p : jK E x = u) (j : ∀ W' R', ST dd F w W' μ (R' ++ Y) → jZ e' enc k v (oy l i z) R' → K (.tuple #[]) W') : ng P E ⟨d, .call ⟨.builtin .clear, #[x], #[t]⟩, ty, pos, af, g⟩ W K :=
 LH z [] a h hk h1 n y hu m p j
end
section
variable {dd : Bool}
variable {κ γ : Type} {Q : Value → γ → List (Nat × Obj) → Prop} {beq : κ → κ → Bool} {kenc : κ → Value}
variable {P : Program} {W : World} {kt : TypeId} {E : Nat → Value} {d : Option Nat} {ty : TypeId} {pos : String} {af : Array Edge} {g : Option (Nat × Bool)} {F : Nat → Prop} {w : World} {μ : km} {L : List (Nat × Obj)}
variable {κ2 β : Type} {kenc2 : κ2 → Value} {vf : β → Value} {beq2 : κ2 → κ2 → Bool} {kt2 : TypeId}
theorem NM {i : Value → World → Prop} {Y R : List (Nat × Obj)} {t e : TypeId} {m x y : Operand} {p : Value} {b : List (κ × Value)} {l n : List (κ × List (κ2 × β))} {k : κ} {j : κ2} {v : β} (hk : ∀ {x y : κ}, beq x y = true → x = y) (K : pu P kt2 kenc2 beq2) (A : P.underlying t = some (.map kt2 e)) (a : ST dd F w W μ (R ++ Y)) (h : mO kenc (lN kenc2 vf) p b l R) (hm : jK E m = rk beq b k (.map none)) (G : jK E x = kenc2 j) (I : jK E y = vf v) (z : GU beq beq2 l k j v = some n) (u : ∀ W' R', ST dd F w W' μ (R' ++ Y) → mO kenc (lN kenc2 vf) p b n R' → i undef W') : ng P E ⟨d, .mapUpdate t m x y, ty, pos, af, g⟩ W i :=
 OU [] hk K A a h hm G I z u
end
section
variable {dd : Bool}
variable {κ γ : Type} {Q : Value → γ → List (Nat × Obj) → Prop} {beq : κ → κ → Bool} {kenc : κ → Value}
variable {P : Program} {W : World} {kt : TypeId} {E : Nat → Value} {d : Option Nat} {ty : TypeId} {pos : String} {af : Array Edge} {g : Option (Nat × Bool)} {F : Nat → Prop} {w : World} {μ : km} {L : List (Nat × Obj)}
variable {κ2 β : Type} {kenc2 : κ2 → Value} {vf : β → Value} {beq2 : κ2 → κ2 → Bool} {kt2 : TypeId}
theorem O1 {i : Value → World → Prop} {Y R R2 : List (Nat × Obj)} {t e : TypeId} {m x y : Operand} {b : Value} {n : List (κ × Value)} {l j : List (κ × γ)} {k : κ} {u : Value} {z : γ} (K : pu P kt kenc beq) (G : P.underlying t = some (.map kt e)) (a : ST dd F w W μ (R ++ (R2 ++ Y))) (h : mO kenc Q b n l R) (hm : jK E m = b) (I : jK E x = kenc k) (J : jK E y = u) (A : Q u z R2) (v : Hg beq l k z = some j) (p : ∀ W' R', ST dd F w W' μ (R' ++ Y) → mO kenc Q b (nZ beq n k u) j R' → i undef W') : ng P E ⟨d, .mapUpdate t m x y, ty, pos, af, g⟩ W i :=
 N1 [] K G a h hm I J A v p
end
section
variable {dd : Bool}
variable {κ γ : Type} {Q : Value → γ → List (Nat × Obj) → Prop} {beq : κ → κ → Bool} {kenc : κ → Value}
variable {P : Program} {W : World} {kt : TypeId} {E : Nat → Value} {d : Option Nat} {ty : TypeId} {pos : String} {af : Array Edge} {g : Option (Nat × Bool)} {F : Nat → Prop} {w : World} {μ : km} {L : List (Nat × Obj)}
theorem R3 {i : Value → World → Prop} {Y R R1 : List (Nat × Obj)} {t e : TypeId} {m x y : Operand} {b : Value} {j : List (κ × Value)} {l : List (κ × γ)} {k : κ} {u : Value} {z : γ} (K : pu P kt kenc beq) (v : P.underlying t = some (.map kt e)) (a : ST dd F w W μ (R ++ (R1 ++ Y))) (h : NE beq kenc Q b j l k R) (hm : jK E m = b) (A : jK E x = kenc k) (G : jK E y = u) (p : Q u z R1) (n : ∀ W' R', ST dd F w W' μ (R' ++ Y) → mO kenc Q b (nZ beq j k u) (nZ beq l k z) R' → i undef W') : ng P E ⟨d, .mapUpdate t m x y, ty, pos, af, g⟩ W i :=
 Th [] K v a h hm A G p n
end
section
variable {dd : Bool}
variable {κ γ : Type} {Q : Value → γ → List (Nat × Obj) → Prop} {beq : κ → κ → Bool} {kenc : κ → Value}
variable {P : Program} {W : World} {kt : TypeId} {E : Nat → Value} {d : Option Nat} {ty : TypeId} {pos : String} {af : Array Edge} {g : Option (Nat × Bool)} {F : Nat → Prop} {w : World} {μ : km} {L : List (Nat × Obj)}
theorem Nh {j : Value → World → Prop} {Y R : List (Nat × Obj)} {t e : TypeId} {m x : Operand} {i z : Value} {x0 : γ} {I : List (κ × Value)} {l : List (κ × γ)} {k : κ} (hk : ∀ {x y : κ}, beq x y = true ↔ x = y) (K : pu P kt kenc beq) (u : P.underlying t = some (.map kt e)) (G : ∀ w, (zeroValue e).run P w = .ok z w) (b : Q z x0 []) (a : ST dd F w W μ (R ++ Y)) (h : mO kenc Q i I l R) (hm : jK E m = i) (A : jK E x = kenc k) (p : ∀ W' v n R' R1, ST dd F w W' μ (R' ++ (R1 ++ Y)) → Q v ((lm beq l k).getD x0) R1 → JM beq kenc Q i l k n R' → j (.tuple #[v, .int .i64 (n : Nat)]) W') : ng P E ⟨d, .mapEntry t m x, ty, pos, af, g⟩ W j :=
 Nq [] hk K u G b a h hm A p
end
section
variable {dd : Bool}
variable {κ γ : Type} {Q : Value → γ → List (Nat × Obj) → Prop} {beq : κ → κ → Bool} {kenc : κ → Value}
variable {P : Program} {W : World} {kt : TypeId} {E : Nat → Value} {d : Option Nat} {ty : TypeId} {pos : String} {af : Array Edge} {g : Option (Nat × Bool)} {F : Nat → Prop} {w : World} {μ : km} {L : List (Nat × Obj)}
theorem KZ {j : Value → World → Prop} {Y R R1 : List (Nat × Obj)} {t e : TypeId} {m s y : Operand} {i u : Value} {z : γ} {l : List (κ × γ)} {k : κ} {n : Nat} (hk : ∀ {x y : κ}, beq x y = true ↔ x = y) (K : pu P kt kenc beq) (a : ST dd F w W μ (R ++ (R1 ++ Y))) (h : JM beq kenc Q i l k n R) (hm : jK E m = i) (A : jK E s = .int .i64 (n : Nat)) (G : jK E y = u) (v : Q u z R1) (p : ∀ W' b R', ST dd F w W' μ (R' ++ Y) → mO kenc Q i b (nZ beq l k z) R' → j undef W') : ng P E ⟨d, .entryStore t m s y, ty, pos, af, g⟩ W j :=
 Lb (e := e) [] hk K a h hm A G v p
end
section
variable {dd : Bool}
variable {α : Type} {e : TypeId} {enc : α → List Value} {k : Nat} {v : Value} {l : List α} {R : List (Nat × Obj)}
variable {P : Program} {W : World} {E : Nat → Value} {d : Option Nat} {ty : TypeId} {pos : String} {af : Array Edge} {g : Option (Nat × Bool)} {F : Nat → Prop} {w : World} {μ : km} {L : List (Nat × Obj)}
theorem LF {K : Value → World → Prop} {t : TypeId} {a : Nat} {z vs : Value} {m r : List α} {Y : List (Nat × Obj)} {x y : Operand} {i : TypeInfo} (b : ST dd F w W μ (R ++ Y)) (hk : ∀ x, (enc x).length = k) (n : 0 < k) (h1 : ∀ x, ∀ u ∈ enc x, u.oneCell' = true) (O : P.underlying t = some (.slice e)) (L : P.info? e = some i) (U : i.zero = some z) (A : z.cells.size = k) (p : i.size = k) (j : i.bytes = a) (Q : jK E x = v) (T : jK E y = vs) (I : pH e enc k v l R) (M : Sl (Pl enc) k (hp W) vs m) (J : mE a l m = some r) (h : ∀ W' G R', ST dd F w W' μ (R' ++ Y) → pH e enc k G r R' → K G W') : ng P E ⟨d, .call ⟨.builtin .append, #[x, y], #[t, t]⟩, ty, pos, af, g⟩ W K :=
 LA [] b hk n h1 O L U A p j Q T I M J h
end
end Go.Proofs.YtjjjihkifgdhgaaGreatDoor
namespace Go.Proofs.YtjjjihkifgdhgaaGreatDoor
open Go.RowKit
variable [M : Md]
section
variable {P : Program} {n : Nat} {Q : qj} {E : Nat → Value} {W : World} {ops : Array Oper} {rest : List Oper}
variable {d j t : Nat} {want : Bool} {v : Value} {ins : Go.Op} {ty : TypeId} {pos : String} {af : Array Edge} {A : Value → Prop}
theorem V (b : lQ P E ⟨some d, ins, ty, pos, af, none⟩ W v W) (h : LW P n ops Q rest (nS E d v) W) (a : d < n := by decide) : LW P n ops Q (⟨some d, ins, ty, pos, af, none⟩ :: rest) E W := IN (.inl rfl) rfl a b h
theorem VE (h : ng P E ⟨some d, ins, ty, pos, af, none⟩ W fun v W' => LW P n ops Q rest (nS E d v) W') (a : d < n := by decide) : LW P n ops Q (⟨some d, ins, ty, pos, af, none⟩ :: rest) E W := Sc (.inl rfl) rfl a h
theorem VO (h : ng P E ⟨none, ins, ty, pos, af, none⟩ W fun _ W' => LW P n ops Q rest E W') : LW P n ops Q (⟨none, ins, ty, pos, af, none⟩ :: rest) E W := TR (.inl rfl) rfl h
theorem VQ (b : ∃ p, A p ∧ ∀ W, lQ P E ⟨some d, ins, ty, pos, af, none⟩ W p W) (h : ∀ p, A p → LW P n ops Q rest (nS E d p) W) (a : d < n := by decide) : LW P n ops Q (⟨some d, ins, ty, pos, af, none⟩ :: rest) E W := Tv (.inl rfl) rfl a b h
theorem Vg (b : (ops[j]?).bind (·.dst) = some t) (a : E t = .bool want) (i : lQ P E ⟨some d, ins, ty, pos, af, some (j, want)⟩ W v W) (h : LW P n ops Q rest (nS E d v) W) (k : t < n := by decide) (g : d < n := by decide) : LW P n ops Q (⟨some d, ins, ty, pos, af, some (j, want)⟩ :: rest) E W := IN (.inr ⟨j, want, t, rfl, b, k, a⟩) rfl g i h
theorem OO (b : (ops[j]?).bind (·.dst) = some t) (a : E t = .bool want) (h : ng P E ⟨some d, ins, ty, pos, af, some (j, want)⟩ W fun v W' => LW P n ops Q rest (nS E d v) W') (i : t < n := by decide) (g : d < n := by decide) : LW P n ops Q (⟨some d, ins, ty, pos, af, some (j, want)⟩ :: rest) E W := Sc (.inr ⟨j, want, t, rfl, b, i, a⟩) rfl g h
theorem U8 (b : (ops[j]?).bind (·.dst) = some t) (a : E t = .bool want) (i : ∃ p, A p ∧ ∀ W, lQ P E ⟨some d, ins, ty, pos, af, some (j, want)⟩ W p W) (h : ∀ p, A p → LW P n ops Q rest (nS E d p) W) (k : t < n := by decide) (g : d < n := by decide) : LW P n ops Q (⟨some d, ins, ty, pos, af, some (j, want)⟩ :: rest) E W := Tv (.inr ⟨j, want, t, rfl, b, k, a⟩) rfl g i h
theorem Vn (b : (ops[j]?).bind (·.dst) = some t) (a : E t = .bool (!want)) (h : LW P n ops Q rest (nS E d undef) W) (i : t < n := by decide) (g : d < n := by decide) : LW P n ops Q (⟨some d, ins, ty, pos, af, some (j, want)⟩ :: rest) E W := TF rfl g rfl b i a h
theorem Vu (b : (ops[j]?).bind (·.dst) = some t) (a : E t = undef) (h : LW P n ops Q rest (nS E d undef) W) (i : t < n := by decide) (g : d < n := by decide) : LW P n ops Q (⟨some d, ins, ty, pos, af, some (j, want)⟩ :: rest) E W := SC rfl g rfl b i a h
end
section
variable {P : Program} {n : Nat} {Q : qj} {E : Nat → Value} {W : World} {ops : Array Oper} {S : Array Bool → World → Prop} {fuel : Nat} {listed : Array Bool} {μ : km} {B : List (Nat × Obj)}
variable {d j t : Nat} {want : Bool} {v : Value} {ins : Go.Op} {ty : TypeId} {pos : String} {af : Array Edge} {A : Value → Prop}
theorem X (i : Nat) (b : ops[i]? = some ⟨some d, ins, ty, pos, af, none⟩) (a : S (listed.setIfInBounds i true) W) (j : ∀ {W}, lQ P E ⟨some d, ins, ty, pos, af, none⟩ W v W) (h : PX P n ops Q S fuel (listed.setIfInBounds i true) (nS E d v) W) (hk : Cj ops listed i = true := by kernel_rfl) (hm : ∀ l w, S (l.setIfInBounds i true) w → S l w := by exact fun _ _ h => h) (g : d < n := by decide) : PX P n ops Q S (fuel + 1) listed E W := lf i b hk (.inl rfl) rfl g hm a (fun _ _ _ _ => j) h
theorem XH (i : Nat) (b : ops[i]? = some ⟨some d, ins, ty, pos, af, none⟩) (a : nC μ B W) (j : ∀ W, nC μ B W → lQ P E ⟨some d, ins, ty, pos, af, none⟩ W v W) (h : PX P n ops Q (fun _ W => nC μ B W) fuel (listed.setIfInBounds i true) (nS E d v) W) (hk : Cj ops listed i = true := by kernel_rfl) (g : d < n := by decide) : PX P n ops Q (fun _ W => nC μ B W) (fuel + 1) listed E W := lf i b hk (.inl rfl) rfl g (fun _ _ h => h) a (fun _ W _ h => j W h) h
theorem XQ (i : Nat) (b : ops[i]? = some ⟨some d, ins, ty, pos, af, none⟩) (a : S (listed.setIfInBounds i true) W) (j : ∃ p, A p ∧ ∀ W, lQ P E ⟨some d, ins, ty, pos, af, none⟩ W p W) (h : ∀ p, A p → PX P n ops Q S fuel (listed.setIfInBounds i true) (nS E d p) W) (hk : Cj ops listed i = true := by kernel_rfl) (hm : ∀ l w, S (l.setIfInBounds i true) w → S l w := by exact fun _ _ h => h) (g : d < n := by decide) : PX P n ops Q S (fuel + 1) listed E W := sL i b hk (.inl rfl) rfl g hm a j h
theorem XE (i : Nat) (a : ops[i]? = some ⟨some d, ins, ty, pos, af, none⟩) (h : ng P E ⟨some d, ins, ty, pos, af, none⟩ W fun v W' => S (listed.setIfInBounds i true) W' ∧ PX P n ops Q S fuel (listed.setIfInBounds i true) (nS E d v) W') (g : Region.ready .any ops listed = [i] := by kernel_rfl) (b : d < n := by decide) : PX P n ops Q S (fuel + 1) listed E W := Sp i a g (.inl rfl) rfl b h
theorem XO (i : Nat) (a : ops[i]? = some ⟨none, ins, ty, pos, af, none⟩) (h : ng P E ⟨none, ins, ty, pos, af, none⟩ W fun _ W' => S (listed.setIfInBounds i true) W' ∧ PX P n ops Q S fuel (listed.setIfInBounds i true) E W') (b : Region.ready .any ops listed = [i] := by kernel_rfl) : PX P n ops Q S (fuel + 1) listed E W := TI i a b (.inl rfl) rfl h
theorem Xg (i : Nat) (g : ops[i]? = some ⟨some d, ins, ty, pos, af, some (j, want)⟩) (k : (ops[j]?).bind (·.dst) = some t) (a : E t = .bool want) (b : S (listed.setIfInBounds i true) W) (u : ∀ {W}, lQ P E ⟨some d, ins, ty, pos, af, some (j, want)⟩ W v W) (h : PX P n ops Q S fuel (listed.setIfInBounds i true) (nS E d v) W) (hk : Cj ops listed i = true := by kernel_rfl) (hm : ∀ l w, S (l.setIfInBounds i true) w → S l w := by exact fun _ _ h => h) (p : t < n := by decide) (m : d < n := by decide) : PX P n ops Q S (fuel + 1) listed E W := lf i g hk (.inr ⟨j, want, t, rfl, k, p, a⟩) rfl m hm b (fun _ _ _ _ => u) h
theorem ub (i : Nat) (g : ops[i]? = some ⟨some d, ins, ty, pos, af, some (j, want)⟩) (k : (ops[j]?).bind (·.dst) = some t) (a : E t = .bool want) (b : nC μ B W) (p : ∀ W, nC μ B W → lQ P E ⟨some d, ins, ty, pos, af, some (j, want)⟩ W v W) (h : PX P n ops Q (fun _ W => nC μ B W) fuel (listed.setIfInBounds i true) (nS E d v) W) (hk : Cj ops listed i = true := by kernel_rfl) (m : t < n := by decide) (l : d < n := by decide) : PX P n ops Q (fun _ W => nC μ B W) (fuel + 1) listed E W := lf i g hk (.inr ⟨j, want, t, rfl, k, m, a⟩) rfl l (fun _ _ h => h) b (fun _ W _ h => p W h) h
theorem El (i : Nat) (b : ops[i]? = some ⟨some d, ins, ty, pos, af, some (j, want)⟩) (g : (ops[j]?).bind (·.dst) = some t) (a : E t = .bool want) (h : ng P E ⟨some d, ins, ty, pos, af, some (j, want)⟩ W fun v W' => S (listed.setIfInBounds i true) W' ∧ PX P n ops Q S fuel (listed.setIfInBounds i true) (nS E d v) W') (l : Region.ready .any ops listed = [i] := by kernel_rfl) (m : t < n := by decide) (k : d < n := by decide) : PX P n ops Q S (fuel + 1) listed E W := Sp i b l (.inr ⟨j, want, t, rfl, g, m, a⟩) rfl k h
theorem Xn (i : Nat) (g : ops[i]? = some ⟨some d, ins, ty, pos, af, some (j, want)⟩) (k : (ops[j]?).bind (·.dst) = some t) (a : E t = .bool (!want)) (b : S (listed.setIfInBounds i true) W) (h : PX P n ops Q S fuel (listed.setIfInBounds i true) (nS E d undef) W) (hk : Cj ops listed i = true := by kernel_rfl) (hm : ∀ l w, S (l.setIfInBounds i true) w → S l w := by exact fun _ _ h => h) (p : t < n := by decide) (m : d < n := by decide) : PX P n ops Q S (fuel + 1) listed E W := TY i g hk rfl k p a rfl m hm b h
theorem Xu (i : Nat) (g : ops[i]? = some ⟨some d, ins, ty, pos, af, some (j, want)⟩) (k : (ops[j]?).bind (·.dst) = some t) (a : E t = undef) (b : S (listed.setIfInBounds i true) W) (h : PX P n ops Q S fuel (listed.setIfInBounds i true) (nS E d undef) W) (hk : Cj ops listed i = true := by kernel_rfl) (hm : ∀ l w, S (l.setIfInBounds i true) w → S l w := by exact fun _ _ h => h) (p : t < n := by decide) (m : d < n := by decide) : PX P n ops Q S (fuel + 1) listed E W := Sa i g hk rfl k p a rfl m hm b h
end
end Go.Proofs.YtjjjihkifgdhgaaGreatDoor
namespace Go.Proofs.YtjjjihkifgdhgaaGreatDoor
open Go.RowKit
section
variable {α β γ : Type}
inductive pp (Q : α → β → Prop) : List α → List β → Prop
 | nil : pp Q [] []
 | cons {a : α} {b : β} {l : List α} {m : List β} : Q a b → pp Q l m → pp Q (a :: l) (b :: m)
namespace pp
variable {Q Q' : α → β → Prop}
theorem length {l : List α} {m : List β} (h : pp Q l m) : l.length = m.length := by
 induction h with
 | nil => rfl
 | cons _ _ ih => simp [ih]
theorem imp {l : List α} {m : List β} (h : pp Q l m) (d : ∀ a b, Q a b → Q' a b) : pp Q' l m := by
 induction h with
 | nil => exact .nil
 | cons h1 _ ih => exact .cons (d _ _ h1) ih
theorem get {l : List α} {m : List β} (h : pp Q l m) : ∀ {i : Nat} {b : β}, m[i]? = some b → ∃ a, l[i]? = some a ∧ Q a b := by
 induction h with
 | nil => intro i b d; simp at d
 | cons h1 _ ih =>
  intro i b d
  cases i with
  | zero => simp at d; subst d; exact ⟨_, rfl, h1⟩
  | succ i => simpa using ih (by simpa using d)
theorem append {l a : List α} {m b : List β} (h : pp Q l m) (d : pp Q a b) : pp Q (l ++ a) (m ++ b) := by
 induction h with
 | nil => exact d
 | cons h1 _ ih => exact .cons h1 ih
theorem set {l : List α} {m : List β} (h : pp Q l m) {a : α} {b : β} (g : Q a b) : ∀ i : Nat, pp Q (l.set i a) (m.set i b) := by
 induction h with
 | nil => intro i; exact .nil
 | cons h1 d ih =>
  intro i
  cases i with
  | zero => exact .cons g d
  | succ i => exact .cons h1 (ih i)
theorem take {l : List α} {m : List β} (h : pp Q l m) : ∀ i : Nat, pp Q (l.take i) (m.take i) := by
 induction h with
 | nil => intro i; simp; exact .nil
 | cons h1 _ ih =>
  intro i
  cases i with
  | zero => exact .nil
  | succ i => exact .cons h1 (ih i)
theorem drop {l : List α} {m : List β} (h : pp Q l m) : ∀ i : Nat, pp Q (l.drop i) (m.drop i) := by
 induction h with
 | nil => intro i; simp; exact .nil
 | cons h1 a ih =>
  intro i
  cases i with
  | zero => exact .cons h1 a
  | succ i => exact ih i
end pp
theorem CF {P : Nat → β → α → Prop} : ∀ {m : List β} (o : Nat), (∀ (i : Nat) (b : β), m[i]? = some b → ∃ a, P (o + i) b a) → ∃ l : List α, l.length = m.length ∧ ∀ (i : Nat) (b : β), m[i]? = some b → ∃ a, l[i]? = some a ∧ P (o + i) b a
 | [], _, _ => ⟨[], rfl, fun i b h => by simp at h⟩
 | b :: m, o, h => by
  obtain ⟨a, ha⟩ := h 0 b rfl
  obtain ⟨l, h1, g⟩ := CF (m := m) (o + 1) (fun i b j => by
   obtain ⟨a, ha⟩ := h (i + 1) b (by simpa using j)
   exact ⟨a, by rw [show o + 1 + i = o + (i + 1) by omega]; exact ha⟩)
  refine ⟨a :: l, by simp [h1], fun i c d => ?_⟩
  cases i with
  | zero => simp at d; subst d; exact ⟨a, rfl, ha⟩
  | succ i =>
   obtain ⟨x, k, hp⟩ := g i c (by simpa using d)
   exact ⟨x, by simpa using k, by rw [show o + (i + 1) = o + 1 + i by omega]; exact hp⟩
theorem pp.OY {Q : α → β → Prop} : ∀ {l : List α} {m : List β}, l.length = m.length → (∀ (i : Nat) (a : α) (b : β), l[i]? = some a → m[i]? = some b → Q a b) → pp Q l m
 | [], [], _, _ => .nil
 | [], _ :: _, h, _ => by cases h
 | _ :: _, [], h, _ => by cases h
 | a :: l, b :: m, h, d => .cons (d 0 a b rfl rfl) (pp.OY (by simpa using h) (fun i x y g j => d (i + 1) x y (by simpa using g) (by simpa using j)))
end
structure Deep {β : Type} (R : qe β) (k : Nat) : Prop where
 mono : JK R
 len : ∀ {μ ys x}, R μ ys x → ys.length = k
 one : ∀ {μ ys x}, R μ ys x → ∀ u ∈ ys, u.oneCell' = true
abbrev xl (k : Nat) := {ys : List Value // ys.length = k ∧ ∀ u ∈ ys, u.oneCell' = true}
def vz {k : Nat} (c : xl k) : List Value := c.1
theorem zz {k : Nat} (x : xl k) : (vz x).length = k := x.2.1
theorem Ps {k : Nat} (x : xl k) : ∀ u ∈ vz x, u.oneCell' = true := x.2.2
theorem Sl.AS {α : Type} {R : qe α} {k : Nat} {μ : km} {v : Value} {l : List α} (h : Sl R k μ v l) : v.oneCell' = true := by
 obtain ⟨A, c, rfl, _⟩ := h; rfl
section
variable {β : Type} {Rl : qe β} {k : Nat} {μ μ' : km} {v : Value} {l : List β}
def Deep.cell (a : Deep Rl k) {ys : List Value} {x : β} (h : Rl μ ys x) : xl k := ⟨ys, a.len h, a.one h⟩
theorem Sl.raw (I : Deep Rl k) (h : Sl Rl k μ v l) : ∃ cl : List (xl k), Sl (Pl vz) k μ v cl ∧ pp (fun c x => Rl μ c.1 x) cl l := by
 obtain ⟨A, c, rfl, h1, w, E⟩ := h
 cases l with
 | nil => exact ⟨[], ⟨A, c, rfl, h1, w, fun h => absurd h (by simp)⟩, .nil⟩
 | cons x0 l =>
  obtain ⟨b, off, cs, T, fr, rfl, J, G⟩ := E (by simp)
  obtain ⟨cl, p, u⟩ := CF (P := fun i x (c : xl k) => Rl μ c.1 x ∧ ∀ j y, c.1[j]? = some y → cs[off + i * k + j]? = some y) (m := x0 :: l) 0 (fun i x t => by
   obtain ⟨ys, _, d, g⟩ := G i x t
   exact ⟨I.cell d, d, by rw [ew]; exact g⟩)
  refine ⟨cl, ⟨_, c, by rw [p], by omega, w, fun _ => ⟨b, off, cs, T, fr, rfl, J, fun i c n => ?_⟩⟩, pp.OY p (fun i c x n t => ?_)⟩
  ·have L : i < (x0 :: l).length := by rw [← p]; exact (bF.1 n).1
   obtain ⟨z, a, _, g⟩ := u i _ (cX L)
   rw [n] at a; cases a
   exact ⟨c.1, c.2.1, rfl, by rw [ew] at g; exact g⟩
  ·obtain ⟨z, a, d, _⟩ := u i x t
   rw [n] at a; cases a
   exact d
theorem Sl.Oa {cl : List (xl k)} (h : Sl (Pl vz) k μ v cl) (y : kj μ μ') (ha : pp (fun c x => Rl μ' c.1 x) cl l) : Sl Rl k μ' v l := by
 obtain ⟨A, c, rfl, h1, m, n⟩ := h
 have a := ha.length
 refine ⟨A, c, by rw [a], by omega, m, fun E => ?_⟩
 obtain ⟨b, off, cs, T, fr, rfl, t, p⟩ := n (by omega)
 refine ⟨b, off, cs, T, fr, rfl, y _ _ t, fun i x z => ?_⟩
 obtain ⟨c, u, w⟩ := ha.get z
 obtain ⟨ys, d, g, j⟩ := p i c u
 cases g
 exact ⟨vz c, d, w, j⟩
def xZ (Rl : qe β) (k : Nat) (μ : km) (W : World) (v : Value) (l : List β) : Prop := ∃ cl : List (xl k), Sl (Pl vz) k (hp W) v cl ∧ pp (fun c x => Rl μ c.1 x) cl l
theorem xZ.sl (b : Deep Rl k) {W : World} (h : Sl Rl k μ v l) (d : kj μ (hp W)) : xZ Rl k μ W v l := by
 obtain ⟨cl, h1, a⟩ := h.raw b
 exact ⟨cl, h1.mono (Pl.mono _) d, a⟩
theorem Sl.Pt {b m : Nat} {cl : List (xl k)} {cs : Array Value} {e : TypeId} (hm : cl.length = m) (a : m ≤ maxLen) (g : cs.toList = (cl.map vz).flatten) (d : μ b = some (.cells cs e (0, 0))) : Sl (Pl vz) k μ (.slice (some ⟨b, 0, none⟩) m m) cl := by
 subst hm
 refine ⟨_, _, rfl, aX _, a, fun _ => ⟨b, 0, _, _, _, rfl, d, fun i x h => ⟨vz x, zz x, rfl, fun j y l => ?_⟩⟩⟩
 have := wX zz cl i x h j y l
 rw [← g] at this
 simpa using this
inductive DC (Rl : qe β) (k : Nat) (μ : km) : List Value → List β → Prop
 | nil : DC Rl k μ [] []
 | cons {ys zs : List Value} {x : β} {l : List β} : Rl μ ys x → DC Rl k μ zs l → DC Rl k μ (ys ++ zs) (x :: l)
theorem DC.cells (b : Deep Rl k) {ys : List Value} (h : DC Rl k μ ys l) : ∃ cl : List (xl k), (cl.map vz).flatten = ys ∧ pp (fun c x => Rl μ c.1 x) cl l := by
 induction h with
 | nil => exact ⟨[], rfl, .nil⟩
 | cons h1 _ ih =>
  obtain ⟨cl, e, a⟩ := ih
  exact ⟨b.cell h1 :: cl, by rw [bL, bN, e]; rfl, .cons h1 a⟩
theorem xZ.lit (g : Deep Rl k) {W : World} {b m : Nat} {ys : List Value} {e : TypeId} (h : DC Rl k μ ys l) (hm : l.length = m) (i : m ≤ maxLen) (j : W.heap[b]? = some (.cells ys.toArray e (0, 0))) : xZ Rl k μ W (.slice (some ⟨b, 0, none⟩) m m) l := by
 obtain ⟨cl, d, a⟩ := h.cells g
 exact ⟨cl, Sl.Pt (by rw [a.length]; exact hm) i d.symm j, a⟩
theorem Sl.imp {R R' : qe β} (h : Sl R k μ v l) (t : ∀ ys x, R μ ys x → R' μ ys x) : Sl R' k μ v l := by
 obtain ⟨A, c, rfl, h1, a, d⟩ := h
 refine ⟨A, c, rfl, h1, a, fun u => ?_⟩
 obtain ⟨b, off, cs, T, fr, rfl, p, g⟩ := d u
 exact ⟨b, off, cs, T, fr, rfl, p, fun i x w => let ⟨ys, j, m, n⟩ := g i x w; ⟨ys, j, t _ _ m, n⟩⟩
theorem FC : ∀ (l : List Nat) (n : Nat), n ∈ l → n ≤ l.foldr max 0
 | [], n, h => by cases h
 | a :: l, n, h => by
  rcases aR.1 h with rfl | h
  ·exact Nat.le_max_left _ _
  ·exact dq (FC l n h) (Nat.le_max_right _ _)
theorem Sl.T4 {R : qe β} {a : Nat → qe β} (h : Sl R k μ v l) (J : ∀ ys x, R μ ys x → ∃ n, a n μ ys x) (up : ∀ n m ys x, n ≤ m → a n μ ys x → a m μ ys x) : ∃ n, Sl (a n) k μ v l := by
 obtain ⟨A, c, rfl, h1, w, G⟩ := h
 by_cases z : 0 < l.length
 ·obtain ⟨b, off, cs, T, fr, rfl, L, I⟩ := G z
  obtain ⟨O, Q, E⟩ := CF (P := fun i x (p : Nat × List Value) => p.2.length = k ∧ a p.1 μ p.2 x ∧ ∀ j y, p.2[j]? = some y → cs[off + i * k + j]? = some y) (m := l) 0 (fun i x u => by
   obtain ⟨ys, g, t, d⟩ := I i x u
   obtain ⟨n, M⟩ := J _ _ t
   exact ⟨(n, ys), g, M, by rw [ew]; exact d⟩)
  refine ⟨(O.map (·.1)).foldr max 0, _, c, rfl, h1, w, fun _ => ⟨b, off, cs, T, fr, rfl, L, fun i x u => ?_⟩⟩
  obtain ⟨p, hp, g, t, d⟩ := E i x u
  exact ⟨p.2, g, up _ _ _ _ (FC _ _ (bJ.2 ⟨p, cY hp, rfl⟩)) t, by rw [ew] at d; exact d⟩
 ·exact ⟨0, A, c, rfl, h1, w, fun h => absurd h z⟩
def kK (e : TypeId) (Rl : qe β) (k : Nat) (μ : km) (v : Value) (l : List β) (B : List (Nat × Obj)) : Prop := ∃ cl : List (xl k), jZ e vz k v cl B ∧ pp (fun c x => Rl μ c.1 x) cl l
variable {e : TypeId} {B : List (Nat × Obj)}
theorem kK.mono (b : Deep Rl k) (h : kK e Rl k μ v l B) (d : kj μ μ') : kK e Rl k μ' v l B := by
 obtain ⟨cl, h1, a⟩ := h
 exact ⟨cl, h1, a.imp (fun _ _ h => b.mono _ _ _ _ d h)⟩
theorem kK.nil (e : TypeId) (Rl : qe β) (k : Nat) (μ : km) : kK e Rl k μ (.slice none 0 0) [] [] := ⟨[], jZ.nil _ _ _, .nil⟩
theorem kK.lit (g : Deep Rl k) {b m : Nat} {ys : List Value} (h : DC Rl k μ ys l) (hm : l.length = m) (i : m ≤ maxLen) (j : ys.length = m * k) : kK e Rl k μ (.slice (some ⟨b, 0, none⟩) m m) l [(b, .cells ys.toArray e (0, 0))] := by
 obtain ⟨cl, d, a⟩ := h.cells g
 exact ⟨cl, jZ.lit (by rw [a.length]; exact hm) i d.symm (by simpa using j), a⟩
theorem kK.form (h : kK e Rl k μ v l B) : ∃ A c, v = .slice A l.length c := by
 obtain ⟨cl, h1, a⟩ := h
 rw [← a.length]; exact h1.form
theorem kK.len (h : kK e Rl k μ v l B) : l.length ≤ 9223372036854775807 := by
 obtain ⟨cl, h1, a⟩ := h
 rw [← a.length]; exact h1.len
theorem kK.nd (h : kK e Rl k μ v l B) : (B.map (·.1)).Nodup := let ⟨_, h1, _⟩ := h; h1.nd
theorem kK.isNil {n c : Nat} (h : kK e Rl k μ (.slice none n c) l B) : l = [] := by
 obtain ⟨cl, h1, a⟩ := h
 have := a.length
 rw [h1.isNil] at this
 exact aV this.symm
theorem kK.sl (h : kK e Rl k μ v l B) (d : Deep Rl k) (g : kj μ μ') (hm : ∀ b o, (b, o) ∈ B → μ' b = some o) : Sl Rl k μ' v l := by
 obtain ⟨cl, h1, a⟩ := h
 exact Sl.Oa (h1.sl zz hm) (kj.refl _) (a.imp (fun _ _ h => d.mono _ _ _ _ g h))
end
section
variable {β : Type} {Rl : qe β} {k : Nat} {μ : km} {v : Value} {l : List β} {e : TypeId} {B : List (Nat × Obj)}
variable {dd : Bool} {F : Nat → Prop} {w W : World} {L : List (Nat × Obj)}
theorem kK.Ul (h : kK e Rl k μ v l B) (b : Deep Rl k) (a : ST dd F w W μ L) (d : ∀ p, p ∈ B → p ∈ L) : Sl Rl k (hp W) v l := h.sl b a.jB (fun _ _ g => a.at_ (d _ g))
theorem xZ.row (h : kK e Rl k μ v l B) (a : ST dd F w W μ L) (d : ∀ p, p ∈ B → p ∈ L) : xZ Rl k μ W v l := let ⟨cl, h1, b⟩ := h; ⟨cl, h1.Ul zz a d, b⟩
theorem kK.Qp (h : kK e Rl k μ v l B) (a : ST dd kx w W μ L) (b : ∀ p, p ∈ B → p ∈ L) : Fr w.heap.size v := let ⟨_, h1, _⟩ := h; h1.Qp a b
theorem ST.uf {Y : List (Nat × Obj)} (g : Deep Rl k) (a : ST dd F w W μ (B ++ Y)) (h : kK e Rl k μ v l B) : ∃ μ', ST dd F w W μ' Y ∧ kj μ μ' ∧ Lo F w μ μ' ∧ Sl Rl k μ' v l := by
 obtain ⟨cl, h1, d⟩ := h
 obtain ⟨μ', b, a2, a4, a3⟩ := ST.Pk a h1 zz
 exact ⟨μ', b, a2, a4, Sl.Oa a3 (kj.refl _) (d.imp (fun _ _ h => g.mono _ _ _ _ a2 h))⟩
variable {P : Program} {E : Nat → Value} {d : Option Nat} {ty : TypeId} {pos : String} {af : Array Edge} {g : Option (Nat × Bool)}
theorem lU {t e' : TypeId} {x a : Operand} {J : IntKind} {i : Int} {x0 : β} {A : List Value → Prop} (y : ∀ {ys}, Rl μ ys x0 → A ys) (G : P.underlying t = some (.slice e')) (he : ∀ w, (sizeOf e').run P w = .ok k w) (I : jK E x = v) (n : jK E a = .int J i) (z : Sl Rl k μ v l) (b : 0 ≤ i) (u : l[i.toNat]? = some x0) :
  ∃ p, (∃ ys, A ys ∧ At μ p ys) ∧ ∀ W, lQ P E ⟨d, .indexAddr t x a, ty, pos, af, g⟩ W p W := by
 obtain ⟨p, ys, _, h, j, m⟩ := Mq (d := d) (ty := ty) (pos := pos) (af := af) (g := g) G he I n z b u
 exact ⟨p, ⟨ys, y h, j⟩, m⟩
theorem so {x : Operand} {t e' : TypeId} (a : P.underlying t = some (.slice e')) (b : jK E x = v) (h : kK e Rl k μ v l B) : lQ P E ⟨d, .call ⟨.builtin .len, #[x], #[t]⟩, ty, pos, af, g⟩ W (.int .i64 l.length) W := by
 obtain ⟨A, c, rfl⟩ := h.form
 exact Du a b
theorem lu {t e' : TypeId} {x j : Operand} {M : IntKind} {i : Int} {x0 : β} {A : List Value → Prop} (G : ∀ {ys}, Rl μ ys x0 → A ys) (J : P.underlying t = some (.slice e')) (he : ∀ w, (sizeOf e').run P w = .ok k w) (L : jK E x = v) (y : jK E j = .int M i) (h : kK e Rl k μ v l B) (m : 0 ≤ i) (z : l[i.toNat]? = some x0) :
  ∃ p, (∃ ys, A ys ∧ At (CK B) p ys ∧ Bj B k p i.toNat) ∧ ∀ W, lQ P E ⟨d, .indexAddr t x j, ty, pos, af, g⟩ W p W := by
 obtain ⟨cl, h1, n⟩ := h
 obtain ⟨c, b, I⟩ := n.get z
 obtain ⟨p, a, u⟩ := nU (d := d) (ty := ty) (pos := pos) (af := af) (g := g) J he L y h1 m b
 exact ⟨p, ⟨c.1, G I, a.at h1 zz b, a⟩, u⟩
theorem PI {α g : Type} {a : Nat} {l m r : List α} {b d : List g} (h : mE a l m = some r) (h1 : b.length = l.length) (i : d.length = m.length) : mE a b d = some (b ++ d) ∧ r = l ++ m := by
 unfold mE at h ⊢
 rw [h1, i]
 split at h
 ·rename_i j; cases h; rw [bB j]; exact ⟨rfl, rfl⟩
 ·cases h
theorem pJ {K : Value → World → Prop} {t : TypeId} {a : Nat} {z vs : Value} {m r : List β} {Y : List (Nat × Obj)} {x y : Operand} {i : TypeInfo} (hD : Deep Rl k) (j : ST dd F w W μ (B ++ Y)) (u : 0 < k) (U : P.underlying t = some (.slice e)) (R : P.info? e = some i) (hz : i.zero = some z) (G : z.cells.size = k) (A : i.size = k) (p : i.bytes = a) (Z : jK E x = v) (hy : jK E y = vs) (O : kK e Rl k μ v l B) (T : xZ Rl k μ W vs m) (Q : mE a l m = some r) (h : ∀ W' b R', ST dd F w W' μ (R' ++ Y) → kK e Rl k μ b r R' → K b W') : ng P E ⟨d, .call ⟨.builtin .append, #[x, y], #[t, t]⟩, ty, pos, af, g⟩ W K := by
 obtain ⟨cl, h1, I⟩ := O
 obtain ⟨cm, M, J⟩ := T
 obtain ⟨n, rfl⟩ := PI Q I.length J.length
 exact nW j zz u Ps U R hz G A p Z hy h1 M n (fun W' b R' L a2 => h W' b R' L ⟨_, a2, I.append J⟩)
theorem qJ {K : Value → World → Prop} {Y : List (Nat × Obj)} {t : TypeId} {x y : Operand} {p : Value} {i : Nat} {x0 x1 : β} {ys : List Value} (n : Deep Rl k) (a : ST dd F w W μ (B ++ Y)) (h : kK e Rl k μ v l B) (I : jK E x = p) (J : jK E y = .agg ys.toArray) (j : Rl μ ys x1) (hp : Bj B k p i) (G : l[i]? = some x0) (z : ∀ w, (sizeOf t).run P w = .ok k w) (u : ∀ W' R', ST dd F w W' μ (R' ++ Y) → kK e Rl k μ v (l.set i x1) R' → K undef W') : ng P E ⟨d, .store t x y, ty, pos, af, g⟩ W K := by
 obtain ⟨cl, h1, b⟩ := h
 obtain ⟨c, A, _⟩ := b.get G
 exact Dy (x1 := n.cell j) a h1 zz Ps I J rfl hp A z (fun W' R' m a2 => u W' R' m ⟨_, a2, b.set j i⟩)
end
end Go.Proofs.YtjjjihkifgdhgaaGreatDoor
namespace Go.Proofs.YtjjjihkifgdhgaaGreatDoor
open Go.RowKit
def lT (dd : Bool) (P : Program) (f : FuncId) (args : List Value) (w : World) (μ0 : km) (L0 : List (Nat × Obj)) (K : Value → List (Nat × Obj) → km → Prop) : Prop :=
 Calls P f args.toArray w fun e a => ∃ v L1 μ1, e = .returned v ∧ uj dd L0 L1 w a ∧ kj μ0 μ1 ∧ Lo (keys L0) w μ0 μ1 ∧ kj μ1 (uK a L1) ∧ K v L1 μ1
theorem lT.lE {dd : Bool} {P : Program} {f : FuncId} {args : List Value} {w : World} {μ0 : km} {L0 : List (Nat × Obj)} {K : Value → List (Nat × Obj) → km → Prop} (h : lT true P f args w μ0 L0 K) : lT dd P f args w μ0 L0 K :=
 cV h fun _ _ ⟨v, L1, μ1, h1, a, b⟩ => ⟨v, L1, μ1, h1, a.lE, b⟩
section
variable {dd : Bool} {F : Nat → Prop} {w W W' : World} {μ μ1 : km} {L L0 L1 L2 : List (Nat × Obj)}
theorem ST.Tw (h : ST dd F w W μ (L0 ++ L)) (i : uj dd L0 L1 W W') (j : Lo (keys L0) W μ μ1) (g : kj μ1 (uK W' L1)) : ST dd F w W' μ1 (L1 ++ L) := by
 have h1 := h.back i
 refine ⟨h1.os, h1.tape, h1.output, h1.drawn, h1.size, h1.lZ, fun b o hm => ?_, fun b o a => ?_, h1.nd⟩
 ·have := g b o hm
  unfold uK at this
  split at this
  ·cases this
  ·exact this
 ·obtain ⟨k, m, l⟩ := h1.box b o a
  refine ⟨k, ?_, l⟩
  rcases aW.1 a with a | a
  ·cases hm : μ1 b with
   | none => rfl
   | some x =>
    have := g b x hm
    unfold uK at this
    rw [bB ⟨o, a⟩] at this
    cases this
  ·have d := h.box b o (dU _ a)
   rw [j b (nV d.1) (FP h.nd a)]
   exact d.2.1
variable {P : Program} {E : Nat → Value} {d : Option Nat} {ty : TypeId} {pos : String} {af : Array Edge} {g : Option (Nat × Bool)}
theorem Qd {K : Value → World → Prop} {K' : Value → List (Nat × Obj) → km → Prop} {f : FuncId} {fv : Operand} {ax : Array Operand} {ats : Array TypeId} {caps : Array Value} {args : List Value} (L0 L2 : List (Nat × Obj)) (a : ST dd F w W μ L) (i : L.Perm (L0 ++ L2)) (y : jK E fv = .func (.func f) #[] caps) (he : ∀ args w, (callFunc f args).run P w = .ok (.enter f args) w) (ha : ax.map (jK E) ++ (#[] : Array Value) = args.toArray) (x : Fl L0 W → (L0.map (·.1)).Nodup → kj μ (uK W L0) → (∀ b o, (b, o) ∈ L2 → uK W L0 b = some o) → lT dd P f (args ++ caps.toList) W μ L0 K') (h : ∀ W' v μ' L1, ST dd F w W' μ' (L1 ++ L2) → kj μ μ' → Lo F w μ μ' → K' v L1 μ' → K v W') : ng P E ⟨d, .call ⟨.value fv, ax, ats⟩, ty, pos, af, g⟩ W K := by
 have j : ax.map (jK E) = args.toArray := by simpa using ha
 refine CX (args := (args ++ caps.toList).toArray) y he (by rw [j]; simp) (cV (x (a.held i) (a.Sh i) (a.Te i) (a.Mz i)) (fun _ W' ⟨v, L1, μ1, h1, l, m, k, n, p⟩ => ⟨v, h1, h W' v μ1 L1 ((a.perm i).Tw l k n) m (fun b u t => k b (dY u a.size) (fun ⟨o, z⟩ => by
  rcases ((a.perm i).box b o (cI _ z)).2.2 with q | q
  ·omega
  ·exact t q)) p⟩))
end
section
variable {P : Program} {E : Nat → Value} {W : World} {d : Option Nat} {ty : TypeId} {pos : String} {af : Array Edge} {g : Option (Nat × Bool)}
 {dd : Bool} {F : Nat → Prop} {w : World} {μ : km} {L : List (Nat × Obj)}
def FB {α : Type} (a : Nat) (z : α) (n : Int) : Option (List α) := if 0 ≤ n ∧ (a : Int) * n ≤ 140737488355328 ∧ n ≤ (maxLen : Int) then some (List.replicate n.toNat z) else none
theorem IT {α : Type} {enc : α → List Value} {k : Nat} (hk : ∀ x, (enc x).length = k) (a : 0 < k) (z : α) (n : Nat) : (madeCells (enc z).toArray (n * k)).toList = ((List.replicate n z).map enc).flatten := by
 apply List.ext_getElem
 ·rw [pd hk, dv, size_madeCells]; simp
 ·intro i h1 h
  rw [dv, size_madeCells] at h1
  have j : i / k < n := by rw [gE a]; exact h1
  have d : i % k < (enc z).length := by rw [hk]; exact Nat.mod_lt _ a
  have b := wX hk (List.replicate n z) (i / k) z (by rw [List.getElem?_replicate, bB j]) (i % k) _ (cX d)
  rw [show i / k * k + i % k = i by rw [Nat.mul_comm]; exact Nat.div_add_mod i k] at b
  rw [cX h] at b
  have g := fq b
  rw [g]
  simp only [madeCells, Array.getElem_toList, Array.getElem_map, Array.getElem_range, dG, hk]
  rw [getElem!_pos _ _ (by simpa using d)]
  simp
theorem Ln {K : Value → World → Prop} {α : Type} {e t : TypeId} {enc : α → List Value} {k a : Nat} {b : Value} {n : Int} {l : IntKind} {z : α} {r : List α} {x y : Operand} {i : TypeInfo} (m : ST dd F w W μ L) (hk : ∀ x, (enc x).length = k) (v : 0 < k) (T : P.underlying t = some (.slice e)) (Q : P.info? e = some i) (Z : i.zero = some b) (A : i.size = k) (u : i.bytes = a) (O : b.cells = (enc z).toArray) (U : jK E x = .int l n) (Y : jK E y = .int l n) (j : FB a z n = some r) (h : ∀ W' G R', ST dd F w W' μ (R' ++ L) → jZ e enc k G r R' → K G W') : ng P E ⟨d, .makeSlice t x y, ty, pos, af, g⟩ W K := by
 unfold FB at j
 split at j
 case isFalse => cases j
 rename_i p
 cases j
 obtain ⟨I, h1, J⟩ := p
 subst A; subst u
 have M : n.toNat ≤ maxLen := by omega
 have R := run_make (P := P) W t e i b T Q Z l l n n I (Int.le_refl _) (by omega) (by simp only [maxLen] at J; omega)
 refine .inl ⟨.slice (some ⟨W.heap.size, 0, none⟩) n.toNat n.toNat, W.alloc (.cells (madeCells b.cells (n.toNat * i.size)) e), ?_, h _ _ [(W.heap.size, .cells (madeCells b.cells (n.toNat * i.size)) e)] (m.alloc _) ?_⟩
 ·show (do pure (.value (← Instr.makeSlice t (jK E x) (jK E y))) : Sem Next).run P W = _
  rw [U, Y]
  simp only [bZ, R, bK, cW]
 ·exact jZ.lit (by rw [List.length_replicate]) M (by rw [O]; exact IT hk v z _) (by rw [size_madeCells])
end
theorem qo.AS {κ γ : Type} {kenc : κ → Value} {Q : Value → γ → List (Nat × Obj) → Prop} {μ : km} {v : Value} {l : List (κ × γ)} (h : qo kenc Q μ v l) : v.oneCell' = true := by
 obtain ⟨a, R, h, _⟩ := h
 obtain ⟨m, rfl⟩ := h.form
 rfl
theorem wH.AS {κ β : Type} {kenc : κ → Value} {vf : β → Value} {μ : km} {v : Value} {l : List (κ × β)} (h : wH kenc vf μ v l) : v.oneCell' = true := by
 obtain ⟨m, rfl⟩ := h.form
 rfl
variable [M : Md]
section
variable {dd : Bool}
def uU {α : Type} (R : qe α) : km → List Value → α → Prop := fun μ vs x => ∃ ys, vs = [.agg ys.toArray] ∧ R μ ys x
def ui {α β : Type} (R : qe α) (S : qe β) : km → List Value → α × β → Prop := fun μ vs x => ∃ ys zs, vs = [.agg ys.toArray, .agg zs.toArray] ∧ R μ ys x.1 ∧ S μ zs x.2
theorem uU.mk {α : Type} {R : qe α} {k : Nat} {μ μ' : km} {ys : List Value} {x : α} (a : Deep R k) (h : R μ ys x) (b : kj μ μ') : uU R μ' [.agg ys.toArray] x := ⟨ys, rfl, a.mono _ _ _ _ b h⟩
theorem ui.mk {α β : Type} {R : qe α} {S : qe β} {k m : Nat} {μ μ' : km} {ys zs : List Value} {x : α} {y : β} (d : Deep R k) (g : Deep S m) (h : R μ ys x) (b : S μ zs y) (a : kj μ μ') : ui R S μ' [.agg ys.toArray, .agg zs.toArray] (x, y) :=
 ⟨ys, zs, rfl, d.mono _ _ _ _ a h, g.mono _ _ _ _ a b⟩
def uc {α β : Type} (P : Program) (fv : Value) (μ : km) (a : km → List Value → α → Prop) (b : β → Value) (pm : α → Option β) : Prop :=
 ∃ f first caps, fv = .func (.func f) first caps ∧ (∀ args w, (callFunc f args).run P w = .ok (.enter f args) w) ∧ ∀ W x vs r, kj μ (hp W) → a (hp W) vs x → pm x = some r → jV false P f (first.toList ++ (vs ++ caps.toList)) W (b r)
theorem uc.form {α β : Type} {P : Program} {fv : Value} {μ : km} {d : km → List Value → α → Prop} {g : β → Value} {pm : α → Option β} (h : uc P fv μ d g pm) : ∃ f a b, fv = .func f a b := let ⟨f, a, b, h, _⟩ := h; ⟨_, a, b, h⟩
end
section
variable {P : Program} {W : World} {E : Nat → Value} {d : Option Nat} {ty : TypeId} {pos : String} {af : Array Edge} {g : Option (Nat × Bool)} {F : Nat → Prop} {w : World} {μ μ0 : km} {L : List (Nat × Obj)}
theorem uc.mono {α β : Type} {fv : Value} {a : km → List Value → α → Prop} {b : β → Value} {pm : α → Option β} (h : uc P fv μ a b pm) (i : kj μ μ0) : uc P fv μ0 a b pm := by
 obtain ⟨f, first, caps, h1, d, g⟩ := h
 exact ⟨f, first, caps, h1, d, fun W x vs r h => g W x vs r (i.trans h)⟩
theorem vH {α β : Type} {K : Value → World → Prop} {fv : Value} {j : km → List Value → α → Prop} {k : β → Value} {pm : α → Option β} {b : Operand} {ax : Array Operand} {ats : Array TypeId} (x : α) {vs : List Value} {r : β} (a : ST false F w W μ L) (u : uc P fv μ0 j k pm) (y : kj μ0 μ) (t : j (hp W) vs x) (v : jK E b = fv) (ha : ax.map (jK E) ++ (#[] : Array Value) = vs.toArray) (hm : pm x = some r) (h : ∀ W', ST false F w W' μ L → K (k r) W') : ng P E ⟨d, .call ⟨.value b, ax, ats⟩, ty, pos, af, g⟩ W K := by
 obtain ⟨f, first, caps, rfl, l, m⟩ := u
 have i : ax.map (jK E) = vs.toArray := by simpa using ha
 refine .inr (.inr ⟨f, (first.toList ++ (vs ++ caps.toList)).toArray, ?_, cV (m W x vs r (y.trans a.jB) t hm) (fun _ _ ⟨n, p⟩ => ⟨_, n, h _ (a.HC p)⟩)⟩)
 show (do let d ← resolve (jK E) ⟨.value b, ax, ats⟩ ty; invoke d.target d.args : Sem Next).run P W = _
 simp only [resolve, v, Deferred.ofValue, bZ, cW, bK, invoke, i, l]
 congr 2
 simp
end
section
variable {dd : Bool}
variable {β : Type} {Rl : qe β} {k : Nat} {μ : km} {v : Value} {l : List β} {e : TypeId} {B : List (Nat × Obj)}
variable {F : Nat → Prop} {w W : World} {L : List (Nat × Obj)}
variable {P : Program} {E : Nat → Value} {d : Option Nat} {ty : TypeId} {pos : String} {af : Array Edge} {g : Option (Nat × Bool)}
theorem Kf {α : Type} {enc : α → List Value} (hk : ∀ x, (enc x).length = k) (d : 0 < k) (g : ∀ x y, enc x = enc y → x = y) : ∀ {l m : List α}, (l.map enc).flatten = (m.map enc).flatten → l = m
 | [], [], _ => rfl
 | [], b :: m, h => by
  have := bA List.length h
  simp only [eT, dy, bV, bL, bN, aF, hk] at this
  omega
 | a :: l, [], h => by
  have := bA List.length h
  simp only [eT, dy, bV, bL, bN, aF, hk] at this
  omega
 | a :: l, b :: m, h => by
  simp only [bL, bN] at h
  obtain ⟨h1, i⟩ := List.append_inj h (by rw [hk, hk])
  rw [g _ _ h1, Kf hk d g i]
theorem UM (x y : xl k) (h : vz x = vz y) : x = y := Subtype.ext h
theorem jZ.pre {v1 : Value} {cl a : List (xl k)} (g : 0 < k) (h : jZ e vz k v cl B) (h1 : jZ e vz k v1 a B) (d : a.length ≤ cl.length) : a = cl.take a.length := by
 rcases h with ⟨rfl, rfl, rfl⟩ | ⟨u, cap, b, rfl, rfl, w, x, y, p⟩
 ·simp at d; simp [d]
 ·rcases h1 with ⟨_, _, h⟩ | ⟨g1, i, j, rfl, l, t, a2, a3, a4⟩
  ·cases h
  ·cases l
   refine Kf zz g UM ?_
   rw [← a4]
   have hle : a.length * k ≤ cl.length * k := cN _ d
   have : b.toList.take (a.length * k) = (b.toList.take (cl.length * k)).take (a.length * k) := by rw [gj, dK hle]
   rw [this, p]
   have m : (cl.map vz).flatten = ((cl.take a.length).map vz).flatten ++ ((cl.drop a.length).map vz).flatten := by rw [← cM, ← cE, gF]
   have n : ((cl.take a.length).map vz).flatten.length = a.length * k := by rw [pd zz, cZ, dK d]
   rw [m, ← n, ij]
theorem pp.replicate {α β : Type} {Q : α → β → Prop} {a : α} {b : β} (h : Q a b) : ∀ n, pp Q (List.replicate n a) (List.replicate n b)
 | 0 => .nil
 | n + 1 => .cons h (pp.replicate h n)
theorem pp.UL {α β : Type} {Q : α → β → Prop} {l : List α} {m : List β} (h : pp Q l m) {a : α} {b : β} (d : Q a b) (i : Nat) : pp Q (oy l i a) (oy m i b) := by
 unfold oy
 rw [h.length]
 exact (h.take i).append (pp.replicate d _)
theorem DM {t e' : TypeId} {x ih : Operand} {A : IntKind} {i : Int} (y : P.underlying t = some (.slice e')) (he : ∀ w, (sizeOf e').run P w = .ok k w) (z : jK E x = v) (p : jK E ih = .int A i) (h : kK e Rl k μ v l B) (j : 0 ≤ i) (u : i ≤ l.length) :
  ∃ a, kK e Rl k μ a (l.take i.toNat) B ∧ ∀ W, lQ P E ⟨d, .slice t x none (some ih) none, ty, pos, af, g⟩ W a W := by
 obtain ⟨cl, h1, b⟩ := h
 obtain ⟨a, m, n⟩ := EX (d := d) (ty := ty) (pos := pos) (af := af) (g := g) y he z p h1 zz j (by rw [b.length]; exact u)
 exact ⟨a, ⟨_, m, b.take _⟩, n⟩
theorem Bp {t e' : TypeId} {x a : Operand} {z : IntKind} {i : Int} (p : P.underlying t = some (.slice e')) (he : ∀ w, (sizeOf e').run P w = .ok k w) (y : jK E x = v) (m : jK E a = .int z i) (h : kK e Rl k μ v l B) (b : 0 ≤ i) (n : i ≤ l.length) :
  ∃ u, AZ k v i.toNat u ∧ ∀ W, lQ P E ⟨d, .slice t x (some a) none none, ty, pos, af, g⟩ W u W := by
 obtain ⟨cl, h1, j⟩ := h
 exact Ac p he y m h1 b (by rw [j.length]; exact n)
theorem M5 {t e' : TypeId} {x : Operand} {u : Value} {i : Nat} (b : P.underlying t = some (.slice e')) (j : jK E x = u) (hu : AZ k v i u) (h : kK e Rl k μ v l B) : lQ P E ⟨d, .call ⟨.builtin .len, #[x], #[t]⟩, ty, pos, af, g⟩ W (.int .i64 ((l.length - i : Nat) : Int)) W := by
 obtain ⟨cl, h1, a⟩ := h
 rw [← a.length]
 exact I8 b j hu h1
theorem BA {t e' : TypeId} {x j : Operand} {O : IntKind} {i : Int} {x0 : β} {u : Value} {o : Nat} {A : List Value → Prop} (I : ∀ {ys}, Rl μ ys x0 → A ys) (L : P.underlying t = some (.slice e')) (he : ∀ w, (sizeOf e').run P w = .ok k w) (M : jK E x = u) (z : jK E j = .int O i) (h : kK e Rl k μ v l B) (hu : AZ k v o u) (m : 0 ≤ i) (G : (l.drop o)[i.toNat]? = some x0) :
  ∃ p, (∃ ys, A ys ∧ At (CK B) p ys ∧ Bj B k p (o + i.toNat)) ∧ ∀ W, lQ P E ⟨d, .indexAddr t x j, ty, pos, af, g⟩ W p W := by
 obtain ⟨cl, h1, n⟩ := h
 obtain ⟨c, b, J⟩ := (n.drop o).get G
 obtain ⟨p, a, y⟩ := Ak (d := d) (ty := ty) (pos := pos) (af := af) (g := g) L he M z h1 hu m b
 exact ⟨p, ⟨c.1, I J, a.at h1 zz (BG b), a⟩, y⟩
theorem ED {K : Value → World → Prop} {z : β} {zs : List Value} {Y : List (Nat × Obj)} {t e' : TypeId} {x : Operand} {u j : Value} {i : Nat} (p : Deep Rl k) (b : ST dd F w W μ (B ++ Y)) (h : kK e Rl k μ v l B) (a : Rl μ zs z) (G : P.underlying t = some (.slice e')) (J : ∀ w, (zeroValue e').run P w = .ok j w) (hu : AZ k v i u) (A : j.cells = zs.toArray) (I : jK E x = u) (y : ∀ W' R', ST dd F w W' μ (R' ++ Y) → kK e Rl k μ v (oy l i z) R' → K (.tuple #[]) W') : ng P E ⟨d, .call ⟨.builtin .clear, #[x], #[t]⟩, ty, pos, af, g⟩ W K := by
 obtain ⟨cl, h1, n⟩ := h
 exact CO (p.cell a) b h1 zz Ps G J hu A I (fun W' R' m a2 => y W' R' m ⟨_, a2, n.UL a i⟩)
end
section
variable {P : Program} {W : World} {E : Nat → Value} {d : Option Nat} {ty : TypeId} {pos : String} {af : Array Edge} {g : Option (Nat × Bool)}
theorem OX {tx tv : TypeId} {x y : Operand} {fv : Value} {s u : Array TypeId} {bb : Bool} (j : P.underlying tx = some (.func s u bb)) (h : ∃ f a b, fv = .func f a b) (k : jK E x = fv) (l : jK E y = .nilFunc) :
  lQ P E ⟨d, .binOp .neq tx x y tv, ty, pos, af, g⟩ W (.bool true) W := by
 obtain ⟨f, a, b, rfl⟩ := h
 show (do let r ← (do eqGuard .neq tx x y (jK E x) (jK E y); binOp .neq tx (jK E x) (jK E y)); pure (.value r) : Sem Next).run P W = _
 rw [k, l]
 have i := GK 9999 j f a b W
 simp [eqGuard, binOp, Op.equal, show Op.maxDepth = 9999 + 1 from rfl, i]
end
end Go.Proofs.YtjjjihkifgdhgaaGreatDoor
