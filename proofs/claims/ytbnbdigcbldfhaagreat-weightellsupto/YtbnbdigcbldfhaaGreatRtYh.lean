/- a part of a proof of WeighTells -/
import Derived.WalkKit
import Derived.WalkLawsBesides
import Derived.TacticsIn
import Derived.OrdersIn
import Derived.ControlIn
import Derived.Maps.AppendAt
import Derived.OrdersHeld
import Derived.Laws.IdiomStrings
import Derived.Maps.RangeRun
import Derived.Lib.BytesEntry
import Derived.Lib.Bytealg
import Derived.Laws.Externs
import Derived.ChangeKeysEq
import Derived.Deep.AppendSrc
import Derived.Laws.MakeOwn
set_option linter.all false
namespace Go.Proofs.YtbnbdigcbldfhaaGreat
open Go.RowKit
def aa := @Option.bind_some
def aj := @Int.natCast_nonneg
def ak := @List.mem_cons
def al := @if_neg
def an := @List.length_append
def ap := @Bool.false_eq_true
def aq := @run_underlying
def ar := @if_pos
def au := @List.drop_length
def aw := @congrArg
def ay := @List.append_assoc
def aA := @List.mem_singleton
def aB := @List.length_cons
def aC := @List.getElem?_eq_some_iff
def aD := @Bool.and_eq_true
def aF := @List.nodup_append
def aH := @Result.andThen_ok
def aI := @List.mem_append
def aJ := @Nat.le_refl
def aK := @List.mem_map
def aN := @List.map_cons
def aP := @List.map_append
def aQ := @Sem.run_bind
def aS := @List.mem_append_left
def aW := @Nat.mul_le_mul_right
def aX := @List.append_nil
def aY := @List.Perm.append_left
def aZ := @Nat.add_mul
def bf := @if_false
def bi := @if_true
def bk := @Nat.le_trans
def bl := @List.length_eq_zero_iff
def bn := @Nat.lt_succ_self
def bp := @Array.getElem?_toList
def bu := @Bool.eq_false_or_eq_true
def bw := @List.nil_append
def bx := @Array.getElem?_eq_some_iff
def bA := @Sem.run_pure
def bB := @List.mem_append_right
def bF := @List.findIdx?_eq_some_iff_getElem
def bG := @Calls.mono
def bH := @List.length_nil
def bI := @Bool.eq_iff_iff
def bJ := @Option.map_some
def bN := @List.length_map
def bO := @List.length_take
def bP := @List.flatten_cons
def bQ := @Bool.not_true
def bR := @List.take_of_length_le
def bT := @List.pairwise_cons
def bV := @List.nodup_cons
def bW := @Nat.min_eq_left
def bX := @List.getElem?_eq_getElem
def bY := @beq_self_eq_true
def bZ := @List.cons_append
def cc := @List.not_mem_nil
def cd := @Array.getElem?_modify
def cg := @Addr.add_lit
def ch := @List.getElem?_map
def cj := @List.getElem?_drop
def cm := @List.countP_cons
def cn := @Array.length_toList
def cq := @List.eq_nil_of_length_eq_zero
def cr := @List.size_toArray
def ct := @List.pairwise_map
def cv := @List.flatMap_cons
def cw := @List.getElem?_take_of_lt
def cx := @List.mem_filter
def cy := @Nat.eq_zero_or_pos
def cz := @List.findIdx?_cons
def cA := @Array.getD_eq_getD_getElem?
def cC := @List.ext_getElem?
def cD := @List.cons.injEq
def cE := @List.getElem?_eq_none
def cH := @List.perm_append_comm
def cI := @Nat.lt_of_lt_of_le
def cJ := @List.perm_middle
def cK := @List.getElem?_take
def cL := @List.mem_cons_of_mem
def cM := @List.forall_mem_cons
def cN := @Bool.not_eq_true'
def cO := @List.map_map
def cR := @List.filter_cons
def cT := @Bool.not_false
def cV := @List.eq_nil_or_concat
def cW := @List.length_singleton
def cX := @Array.getElem?_eq_getElem
def cY := @Classical.byContradiction
def cZ := @List.foldl_cons
def da := @List.getElem?_set
def db := @Function.comp_def
def de := @List.findIdx?_append
def df := @decide_eq_true_eq
def dg := @Int.toNat_natCast
def dh := @Nat.add_assoc
def dj := @ByteArray.toList_eq
def dl := @List.filter_eq_self
def dm := @List.flatten_append
def dn := @List.mergeSort_perm
def dp := @wpIn_mono
def dq := @List.take_append
def dr := @List.Perm.refl
def du := @List.append_of_mem
def dv := @Bool.or_eq_true
def dx := @List.singleton_append
def dy := @List.getElem?_toArray
def dz := @Option.some.injEq
def dA := @Bool.eq_false_iff
def dB := @List.getElem?_append
def dC := @List.getElem?_append_right
def dD := @List.pairwise_append
def dH := @Nat.mul_le_mul
def dI := @Nat.zero_add
def dJ := @Option.getD_some
def dO := @List.any_eq_true
def dP := @List.mem_flatMap
def dQ := @List.findIdx?_eq_none_iff
def dR := @List.Perm.nodup_iff
def dS := @Array.toList_filter
def dT := @run_callFunc_extern
def dU := @List.getElem_set_ne
def dV := @or_false
def dX := @Bool.true_and
def dZ := @run_equalIn_struct
def eb := @cell_of_row
def ec := @List.getElem?_cons_zero
def ed := @List.pairwise_mergeSort
def ee := @callsIn_wide
def ef := @List.take_take
def ei := @List.findIdx?_map
def ej := @List.Perm.append_right
def eo := @Array.getElem?_append
def er := @List.length_mergeSort
def et := @List.length_drop
def eu := @List.flatten_nil
def eA := @Prod.mk.injEq
def eC := @Nat.zero_le
def eE := @List.length_set
def eG := @List.map_congr_left
def eH := @List.flatMap_append
def eJ := @List.take_length_add_append
def eK := @List.perm_append_comm_assoc
def eL := @List.map_nil
def eQ := @run_loadCells_list
def eS := @List.drop_take
def eT := @List.filter_append
def eU := @List.map_mergeSort
def fj := @UInt8.toNat_lt
def fk := @eq_iff_iff
def fl := @Bool.and_assoc
def fp := @Nat.le_succ
def fq := @run_storeCells_at
def ft := @Nat.one_mul
def fJ := @UInt8.ofNat_toNat
def fK := @List.getLast?_nil
def fL := @of_decide_eq_true
def fM := @ByteArray.ext
def fN := @List.sum_cons
def fO := @List.mem_flatten
def fP := @List.all_eq_true
def fT := @beq_iff_eq
def fU := @getElem!_pos
def fY := @List.find?_cons
def fZ := @Oper.upon_value
def ga := @Oper.upon_enter
def gb := @Option.some.inj
def gh := @getD_set_ne
def gk := @mem_ready
class Md where
 ro : Option Nat
 D : List Deferred
instance rk : Md := ⟨none, []⟩
theorem qf {ro : Option Nat} {P : Program} {ρ : Operand → Value} {o : Oper} {W W' : World} {x : Next} (h : (execOp ρ o).run P W = .ok x W') (g : ∀ d, x ≠ .defer d) : (Oper.semAt ro ρ o).run P W = .ok x W' := by
 cases ro with
 | none => exact h
 | some l =>
  rw [Oper.semAt_eq]
  ·exact h
  ·intro c b
   have e : (execOp ρ o) = (resolve ρ c o.type >>= fun d => pure (Next.defer d)) := by
    unfold execOp; rw [b]
   rw [e, aQ] at h
   cases a : (resolve ρ c o.type).run P W with
   | ok d w => rw [a, aH] at h; cases h; exact g d rfl
   | halt z w => rw [a] at h; cases h
def Md.F (M : Md) : Fence := { Fence.wide with round := M.ro }
theorem Cq {M : Md} {n : Nat} {P : Program} {f : FuncId} {args : Array Value} {w : World} {R : Ending → World → Prop} : CallsIn M.F n P f args w R ↔ Calls P f args w R := ee
theorem xO {M : Md} {n : Nat} {P : Program} {f : FuncId} {args : Array Value} {w : World} {R : Ending → World → Prop} (h : Calls P f args w R) : (M.F.depth.isSome = true → 1 ≤ n) ∧ CallsIn M.F (n - 1) P f args w R :=
 ⟨fun e => (nomatch (show (none : Option Nat).isSome = true from e)), Cq.2 h⟩
variable [M : Md]
def jC (E : Nat → Value) (d : Nat) (v : Value) : Nat → Value := fun t => if t = d then v else E t
def gv (E : Nat → Value) : Operand → Value
 | .tmp t => E t
 | .const v => v
 | .global g => .pointer (some ⟨g, 0, none⟩)
 | .func f => .func (.func f) #[] #[]
def Ag (n : Nat) (a : Act) (E : Nat → Value) : Prop := a.tmps.size = n ∧ a.defers = M.D ∧ ∀ t, a.tmps.getD t undef = E t
section
variable {n : Nat} {a : Act} {E : Nat → Value}
theorem Ag.eval (h : Ag n a E) : a.eval = gv E := by
 funext x
 cases x with
 | tmp t => exact h.2.2 t
 | const v => rfl
 | global g => rfl
 | func f => rfl
theorem Ag.put (h : Ag n a E) {d : Nat} (g : d < n) (v : Value) : Ag n (a.put (some d) v) (jC E d v) := by
 refine ⟨by simp [Act.put, h.1], h.2.1, fun t => ?_⟩
 have c := h.2.2 t
 simp only [Act.put, jC]
 by_cases b : t = d
 ·subst b
  simp [h.1, g]
 ·have : ¬ d = t := fun e => b e.symm
  rw [al b, ← c]
  simp [cA, this]
theorem Ag.qV (h : Ag n a E) (v : Value) : Ag n (a.put none v) E := h
theorem Ag.yield (h : Ag n a E) {ops : Array Oper} {j t : Nat} {b : Bool} (d : (ops[j]?).bind (·.dst) = some t) (i : t < n) (k : E t = .bool b) : yielded ops a.tmps j = some b := by
 have c := h.2.2 t
 have g : a.tmps[t]? = some (E t) := by
  rw [← c]
  simp [cA, h.1, i]
 simp [yielded, d, g, k]
end
abbrev km := Exit → (Nat → Value) → World → Prop
def E0 : Nat → Value := fun _ => undef
def lift (n : Nat) (Q : km) : Exit → Act → World → Prop
 | .panic c, a, w => a.defers = M.D ∧ Q (.panic c) E0 w
 | .outgrown, _, _ => False
 | e, a, w => ∃ E, Ag n a E ∧ Q e E w
theorem zU {n : Nat} {Q : km} {c : List PanicEntry} {a : Act} {d : Option Nat} {v : Value} {w : World} (h : lift n Q (.panic c) (a.put d v) w) : lift n Q (.panic c) a w := by
 cases d <;> exact h
def CW (P : Program) (n : Nat) (c : Code) (Q : km) (E : Nat → Value) (W : World) : Prop := ∀ a, Ag n a E → c.wpIn M.F 0 P (lift n Q) a W
def LW (P : Program) (n : Nat) (ops : Array Oper) (Q : km) (l : List Oper) (E : Nat → Value) (W : World) : Prop := ∀ a, Ag n a E → wpListIn M.F 0 P ops (lift n Q) l a W
def kZ (K : (Nat → Value) → World → Prop) (Q : km) : km
 | .normal, E, W => K E W
 | e, E, W => Q e E W
def pu (id : Nat) (Q : km) : km
 | .exit j, E, W => if j = id then Q .normal E W else Q (.exit j) E W
 | e, E, W => Q e E W
section
variable {P : Program} {n : Nat} {Q : km} {E : Nat → Value} {W : World} {c x y : Code} {ops : Array Oper} {rest : List Oper} {o : Oper}
theorem tK {Q' : km} (h : CW P n c Q E W) (g : ∀ e E W, Q e E W → Q' e E W) : CW P n c Q' E W := fun a i =>
 dp (h a i) (fun e _ _ h => by
  cases e with
  | panic c => exact ⟨h.1, g _ _ _ h.2⟩
  | outgrown => exact h
  | _ => obtain ⟨E', b, d⟩ := h; exact ⟨E', b, g _ _ _ d⟩)
theorem gH (h : CW P n x (kZ (fun E W => CW P n y Q E W) Q) E W) : CW P n (.seq x y) Q E W := fun a d =>
 wpIn_seq (dp (h a d) (fun e c i h => by
  cases e with
  | normal => obtain ⟨E', b, g⟩ := h; exact g c b
  | _ => exact h))
theorem ic (h : Q .normal E W) : CW P n .skip Q E W := fun _ a => wpIn_skip ⟨E, a, h⟩
theorem iq (h : Q .ret E W) : CW P n .ret Q E W := fun _ a => wpIn_ret ⟨E, a, h⟩
theorem oy {id : Nat} (h : Q (.exit id) E W) : CW P n (.exit id) Q E W := fun _ a => wpIn_exit ⟨E, a, h⟩
theorem ji {id : Nat} (h : CW P n c (pu id Q) E W) : CW P n (.block id c) Q E W := fun a i =>
 wpIn_block (dp (h a i) (fun e k l h => by
  cases e with
  | exit j =>
   obtain ⟨E', b, d⟩ := h
   simp only [Exit.inBlock]
   simp only [pu] at d
   split at d
   ·rename_i g; rw [ar g]; exact ⟨E', b, d⟩
   ·rename_i g; rw [al g]; exact ⟨E', b, d⟩
  | _ => exact h))
theorem Bc {co : Operand} {b : Bool} (d : gv E co = .bool b) (i : b = true → CW P n x Q E W) (g : b = false → CW P n y Q E W) : CW P n (.cond co x y) Q E W := fun a c => by
 refine wpIn_cond_split (t := b) (by rw [c.eval]; exact d) (fun h => i h a c) (fun h => g h a c)
theorem qp {co : Operand} (a : gv E co = .bool true) (h : CW P n x Q E W) : CW P n (.cond co x y) Q E W := Bc a (fun _ => h) (fun h => by cases h)
theorem mw {co : Operand} (a : gv E co = .bool false) (h : CW P n y Q E W) : CW P n (.cond co x y) Q E W := Bc a (fun h => by cases h) (fun _ => h)
theorem gE {id : Nat} {l : List Oper} (h : LW P n l.toArray Q l E W) : CW P n (.region id l.toArray false) Q E W := fun a b => wpIn_region_lit (h a b)
theorem gM (h : Q .normal E W) : LW P n ops Q [] E W := fun _ a => wpListIn_nil ⟨E, a, h⟩
theorem xx {P : Program} {F : Fence} {n : Nat} {c : Code} {Q : Exit → Act → World → Prop} {a : Act} {w : World} (I : Nat → Act → World → Prop) (m : Nat) (j : I m a w) (round : ∀ m a w, I m a w → c.wpIn F n P (Exit.then (fun l o => ∃ g, g < m ∧ I g l o) Q) a w) : (Code.loop c).wpIn F n P Q a w := by
 classical
 let J : Act → World → Prop := fun a w => ∃ m, I m a w
 have least : ∀ a w, J a w → ∃ m, I m a w ∧ ∀ k, I k a w → m ≤ k := fun a w ⟨m, hm⟩ => by
  induction m using Nat.strongRecOn with
  | _ m ih =>
   by_cases h : ∃ k, k < m ∧ I k a w
   ·obtain ⟨k, hk, b⟩ := h; exact ih k hk b
   ·exact ⟨m, hm, fun k b => Nat.le_of_not_lt fun d => h ⟨k, d, b⟩⟩
 let μ : Act → World → Nat := fun a w => if h : J a w then Classical.choose (least a w h) else 0
 have i : ∀ a w (h : J a w), I (μ a w) a w ∧ ∀ k, I k a w → μ a w ≤ k := fun a w h => by
  have e : μ a w = Classical.choose (least a w h) := dif_pos h
  rw [e]; exact Classical.choose_spec (least a w h)
 refine wpIn_loop J μ ⟨m, j⟩ fun a w p => dp (round _ a w (i a w p).1) fun e l o h => ?_
 cases e with
 | normal => obtain ⟨g, d, b⟩ := h; exact ⟨⟨g, b⟩, Nat.lt_of_le_of_lt ((i l o ⟨g, b⟩).2 g b) d⟩
 | _ => exact h
theorem lT (I : Nat → (Nat → Value) → World → Prop) (m : Nat) (b : I m E W) (round : ∀ m E W, I m E W → CW P n c (kZ (fun E' W' => ∃ d, d < m ∧ I d E' W') Q) E W) : CW P n (.loop c) Q E W := fun a i =>
 xx (fun m a w => ∃ E, Ag n a E ∧ I m E w) m ⟨E, i, b⟩ (fun m a w ⟨E, i, l⟩ =>
  dp (round m E w l a i) (fun e o p h => by
   cases e with
   | normal => obtain ⟨E', j, d, k, g⟩ := h; exact ⟨d, k, E', j, g⟩
   | _ => exact h))
def mA (n : Nat) (ops : Array Oper) (E : Nat → Value) (o : Oper) : Prop :=
 o.guard = none ∨ ∃ j want t, o.guard = some (j, want) ∧ (ops[j]?).bind (·.dst) = some t ∧ t < n ∧ E t = .bool want
theorem mA.of {a : Act} (h : mA n ops E o) (c : Ag n a E) : Region.wanted o (yielded ops a.tmps) = true := by
 rcases h with h | ⟨j, want, t, d, g, i, b⟩
 ·simp [Region.wanted, h]
 ·simp [Region.wanted, d, c.yield g i b]
theorem BZ {d : Nat} {v : Value} {W' : World} (hw : mA n ops E o) (c : o.dst = some d) (g : d < n) (i : (execOp (gv E) o).run P W = .ok (.value v) W') (h : LW P n ops Q rest (jC E d v) W') : LW P n ops Q (o :: rest) E W := fun a b => by
 unfold wpListIn
 rw [ar (hw.of b)]
 unfold Oper.wpIn
 refine ⟨fun _ _ => trivial, ?_⟩
 rw [b.eval, qf i (by simp), Oper.uponIn_value, c]
 exact h _ (b.put g v)
theorem Dg {W' : World} (hw : mA n ops E o) (c : o.dst = none) (d : (execOp (gv E) o).run P W = .ok .skip W') (h : LW P n ops Q rest E W') : LW P n ops Q (o :: rest) E W := fun a b => by
 unfold wpListIn
 rw [ar (hw.of b)]
 unfold Oper.wpIn
 refine ⟨fun _ _ => trivial, ?_⟩
 rw [b.eval, qf d (by simp), Oper.uponIn_skip, c]
 exact h _ (b.qV _)
theorem C8 {f : FuncId} {args : Array Value} {d : Nat} (hw : mA n ops E o) (g : o.dst = some d) (j : d < n) (k : (execOp (gv E) o).run P W = .ok (.enter f args) W) (h : Calls P f args W fun e c => ∃ v, e = .returned v ∧ LW P n ops Q rest (jC E d v) c) : LW P n ops Q (o :: rest) E W := fun a b => by
 unfold wpListIn
 rw [ar (hw.of b)]
 unfold Oper.wpIn
 refine ⟨fun _ _ => trivial, ?_⟩
 rw [b.eval, qf k (by simp), Oper.uponIn_enter]
 refine xO (bG h ?_)
 rintro e c ⟨v, rfl, i⟩
 simp only [g]
 exact i _ (b.put j v)
theorem Ft {d j t : Nat} {want : Bool} (g : o.dst = some d) (l : d < n) (i : o.guard = some (j, want)) (k : (ops[j]?).bind (·.dst) = some t) (m : t < n) (c : E t = .bool (!want)) (h : LW P n ops Q rest (jC E d undef) W) : LW P n ops Q (o :: rest) E W := fun a b => by
 unfold wpListIn
 have p := b.yield k m c
 rw [al (by simp [Region.wanted, i, p])]
 rw [g]
 exact ⟨fun _ _ => trivial, h _ (b.put l _)⟩
end
end Go.Proofs.YtbnbdigcbldfhaaGreat
namespace Go.Proofs.YtbnbdigcbldfhaaGreat
open Go.RowKit
variable {dd : Bool}
abbrev gT := Nat → Option Obj
def hp (W : World) : gT := fun b => W.heap[b]?
def np (dd : Bool) (a b : Nat) : Prop := dd = true → a ≤ b
theorem np.of {dd : Bool} {a b : Nat} (h : a ≤ b) : np dd a b := fun _ => h
theorem np.trans {dd : Bool} {a b c : Nat} (h : np dd a b) (k : np dd b c) : np dd a c := fun e => bk (h e) (k e)
structure Ex (dd : Bool) (w W : World) : Prop where
 os : W.os = w.os
 tape : W.tape = w.tape
 output : W.output = w.output
 drawn : np dd w.drawn W.drawn
 size : w.heap.size ≤ W.heap.size
 iM : ∀ b, b < w.heap.size → W.heap[b]? = w.heap[b]?
theorem Ex.refl (w : World) : Ex dd w w := ⟨rfl, rfl, rfl, np.of (aJ _), aJ _, fun _ _ => rfl⟩
theorem Ex.trans {a b c : World} (h : Ex dd a b) (k : Ex dd b c) : Ex dd a c :=
 ⟨k.os.trans h.os, k.tape.trans h.tape, k.output.trans h.output, np.trans h.drawn k.drawn, bk h.size k.size, fun i d => (k.iM i (cI d h.size)).trans (h.iM i d)⟩
theorem Ex.drew (w : World) : Ex dd w w.drew := ⟨rfl, rfl, rfl, np.of (fp _), aJ _, fun _ _ => rfl⟩
theorem Ex.alloc (w : World) (o : Obj) : Ex dd w (w.alloc o) := ⟨rfl, rfl, rfl, np.of (aJ _), by show w.heap.size ≤ (w.heap.push o).size; simp, fun k hk => Below.heap_alloc w o k hk⟩
theorem Ex.kC {w W : World} (h : Ex true w W) : Ex dd w W := ⟨h.os, h.tape, h.output, np.of (h.drawn rfl), h.size, h.iM⟩
def ig (μ μ' : gT) : Prop := ∀ b o, μ b = some o → μ' b = some o
theorem ig.refl (μ : gT) : ig μ μ := fun _ _ h => h
theorem ig.trans {a b c : gT} (h : ig a b) (k : ig b c) : ig a c := fun x o d => k x o (h x o d)
structure ST (dd : Bool) (F : Nat → Prop) (w W : World) (μ : gT) (L : List (Nat × Obj)) : Prop where
 os : W.os = w.os
 tape : W.tape = w.tape
 output : W.output = w.output
 drawn : np dd w.drawn W.drawn
 size : w.heap.size ≤ W.heap.size
 iM : ∀ b, b < w.heap.size → ¬ F b → W.heap[b]? = w.heap[b]?
 mem : ∀ b o, μ b = some o → W.heap[b]? = some o
 box : ∀ b o, (b, o) ∈ L → W.heap[b]? = some o ∧ μ b = none ∧ (w.heap.size ≤ b ∨ F b)
 nd : (L.map (·.1)).Nodup
def gN : Nat → Prop := fun _ => False
theorem ST.start (w : World) : ST dd gN w w (hp w) [] :=
 ⟨rfl, rfl, rfl, np.of (aJ _), aJ _, fun _ _ _ => rfl, fun _ _ h => h, fun _ _ h => (by cases h), by simp⟩
section
variable {F : Nat → Prop} {w W W' : World} {μ μ' : gT} {L L' : List (Nat × Obj)}
theorem ST.ex (h : ST dd gN w W μ L) : Ex dd w W := ⟨h.os, h.tape, h.output, h.drawn, h.size, fun b a => h.iM b a (fun x => x)⟩
theorem Dp (W : World) (o : Obj) : (W.alloc o).heap[W.heap.size]? = some o := heap_alloc_new W o
theorem kf {W : World} {b : Nat} {o : Obj} (h : W.heap[b]? = some o) : b < W.heap.size := (bx.1 h).1
theorem ST.drew (h : ST dd F w W μ L) : ST dd F w W.drew μ L :=
 ⟨h.os, h.tape, h.output, np.trans h.drawn (np.of (fp _)), h.size, h.iM, h.mem, h.box, h.nd⟩
theorem ST.xg (h : ST dd F w W μ L) {b : Nat} {o : Obj} (a : (b, o) ∈ L) : b < W.heap.size := kf (h.box b o a).1
theorem ST.alloc (h : ST dd F w W μ L) (o : Obj) : ST dd F w (W.alloc o) μ ((W.heap.size, o) :: L) := by
 refine ⟨h.os, h.tape, h.output, h.drawn, bk h.size (Ex.alloc (dd := true) W o).size, fun b a g => ?_, fun b o' a => ?_, fun b o' a => ?_, ?_⟩
 ·rw [(Ex.alloc (dd := true) W o).iM b (cI a h.size)]; exact h.iM b a g
 ·have := h.mem b o' a
  rw [(Ex.alloc (dd := true) W o).iM b (kf this)]; exact this
 ·rcases ak.1 a with e | a
  ·cases e
   refine ⟨Dp W o, ?_, .inl h.size⟩
   cases hm : μ W.heap.size with
   | none => rfl
   | some x => have := kf (h.mem _ _ hm); omega
  ·obtain ⟨h1, c, d⟩ := h.box b o' a
   exact ⟨by rw [(Ex.alloc (dd := true) W o).iM b (kf h1)]; exact h1, c, d⟩
 ·simp only [aN, bV]
  refine ⟨fun hm => ?_, h.nd⟩
  obtain ⟨⟨b, o'⟩, a, e⟩ := aK.1 hm
  have := h.xg a
  simp at e
  omega
theorem ST.put {A B : List (Nat × Obj)} {b : Nat} {o o' : Obj} (h : ST dd F w W μ (A ++ (b, o) :: B)) (r : W'.os = W.os ∧ W'.tape = W.tape ∧ W'.output = W.output ∧ W.drawn ≤ W'.drawn ∧ W'.heap.size = W.heap.size) (d : ∀ k, k ≠ b → W'.heap[k]? = W.heap[k]?) (s : W'.heap[b]? = some o') : ST dd F w W' μ (A ++ (b, o') :: B) := by
 obtain ⟨h1, m, n, p, q⟩ := r
 have c := h.box b o (by simp)
 have a := h.nd
 simp only [aP, aN] at a
 have g : ∀ x o, (x, o) ∈ A → x ≠ b := fun x o j e => by
  subst e
  have := (aF.1 a).2.2 x (aK.2 ⟨_, j, rfl⟩) x (by simp)
  exact this rfl
 have i : ∀ x o, (x, o) ∈ B → x ≠ b := fun x o j e => by
  subst e
  have := (bV.1 (aF.1 a).2.1).1
  exact this (aK.2 ⟨_, j, rfl⟩)
 refine ⟨h1.trans h.os, m.trans h.tape, n.trans h.output, np.trans h.drawn (np.of p), by rw [q]; exact h.size, fun k hk l => ?_, fun k x hk => ?_, fun k x hk => ?_, by simpa using a⟩
 ·rw [d k (fun e => by subst e; rcases c.2.2 with h | h; omega; exact l h)]
  exact h.iM k hk l
 ·rw [d k (fun e => by subst e; rw [c.2.1] at hk; cases hk)]
  exact h.mem k x hk
 ·rcases aI.1 hk with hk | hk
  ·rw [d k (g k x hk)]; exact h.box k x (by simp [hk])
  ·rcases ak.1 hk with e | hk
   ·cases e; exact ⟨s, c.2⟩
   ·rw [d k (i k x hk)]; exact h.box k x (by simp [hk])
def Lo (F : Nat → Prop) (w : World) (μ μ' : gT) : Prop := ∀ b, b < w.heap.size → ¬ F b → μ' b = μ b
theorem Lo.refl {F : Nat → Prop} {w : World} {μ : gT} : Lo F w μ μ := fun _ _ _ => rfl
theorem Lo.trans {F : Nat → Prop} {w : World} {a b c : gT} (h : Lo F w a b) (k : Lo F w b c) : Lo F w a c := fun x g d => (k x g d).trans (h x g d)
def grow (μ : gT) (W W' : World) : gT := fun b => if b < W.heap.size then μ b else W'.heap[b]?
theorem ST.vH (h : ST dd F w W μ L) {b : Nat} {o : Obj} (a : μ b = some o) : b < W.heap.size := kf (h.mem b o a)
theorem ST.call (h : ST dd F w W μ L) (c : Ex dd W W') : ST dd F w W' (grow μ W W') L := by
 refine ⟨c.os.trans h.os, c.tape.trans h.tape, c.output.trans h.output, np.trans h.drawn c.drawn, bk h.size c.size, fun b a j => ?_, fun b o a => ?_, fun b o a => ?_, h.nd⟩
 ·rw [c.iM b (cI a h.size)]; exact h.iM b a j
 ·unfold grow at a
  split at a
  ·rename_i d; rw [c.iM b d]; exact h.mem b o a
  ·exact a
 ·obtain ⟨h1, g, i⟩ := h.box b o a
  exact ⟨by rw [c.iM b (kf h1)]; exact h1, by unfold grow; rw [ar (kf h1)]; exact g, i⟩
theorem ST.CN (h : ST dd F w W μ L) (W' : World) : ig μ (grow μ W W') := fun b o a => by
 unfold grow; rw [ar (h.vH a)]; exact a
theorem ST.kC (h : ST dd F w W μ' L) (c : ig μ μ') : ST dd F w W μ L :=
 ⟨h.os, h.tape, h.output, h.drawn, h.size, h.iM, fun b o a => h.mem b o (c b o a), fun b o a => by
  obtain ⟨h1, d, g⟩ := h.box b o a
  refine ⟨h1, ?_, g⟩
  cases hm : μ b with
  | none => rfl
  | some x => (have := c b x hm; rw [d] at this; cases this), h.nd⟩
theorem ST.Bz (h : ST dd F w W μ L) (a : Ex dd W W') : ST dd F w W' μ L := (h.call a).kC (h.CN W')
theorem ST.iG (h : ST dd F w W μ L) : ig μ (hp W) := h.mem
def AH (μ : gT) (b : Nat) (o : Obj) : gT := fun k => if k = b then some o else μ k
theorem ST.xT {A B : List (Nat × Obj)} {b : Nat} {o : Obj} (h : ST dd F w W μ (A ++ (b, o) :: B)) : ST dd F w W (AH μ b o) (A ++ B) := by
 have d := h.box b o (by simp)
 have a := h.nd
 simp only [aP, aN] at a
 have i : ∀ x y, (x, y) ∈ A ++ B → x ≠ b := fun x y c e => by
  subst e
  rcases aI.1 c with c | c
  ·exact (aF.1 a).2.2 x (aK.2 ⟨_, c, rfl⟩) x (by simp) rfl
  ·exact (bV.1 (aF.1 a).2.1).1 (aK.2 ⟨_, c, rfl⟩)
 refine ⟨h.os, h.tape, h.output, h.drawn, h.size, h.iM, fun k x hk => ?_, fun k x hk => ?_, ?_⟩
 ·unfold AH at hk
  split at hk
  ·rename_i e; cases hk; rw [e]; exact d.1
  ·exact h.mem k x hk
 ·have g : (k, x) ∈ A ++ (b, o) :: B := by
   rcases aI.1 hk with h | h <;> simp [h]
  obtain ⟨h1, j, l⟩ := h.box k x g
  exact ⟨h1, by unfold AH; rw [al (i k x hk)]; exact j, l⟩
 ·have : (A ++ B).Sublist (A ++ (b, o) :: B) := List.Sublist.append (List.Sublist.refl A) (List.sublist_cons_self _ _)
  exact List.Nodup.sublist (this.map _) h.nd
theorem ST.xR {A B : List (Nat × Obj)} {b : Nat} {o : Obj} (h : ST dd F w W μ (A ++ (b, o) :: B)) : ig μ (AH μ b o) := fun k x hk => by
 unfold AH
 split
 ·rename_i e; subst e; rw [(h.box k o (by simp)).2.1] at hk; cases hk
 ·exact hk
theorem ST.Ch {A B : List (Nat × Obj)} {b : Nat} {o : Obj} (h : ST dd F w W μ (A ++ (b, o) :: B)) : Lo F w μ (AH μ b o) := fun k hk c => by
 refine al (fun e => ?_)
 subst e
 rcases (h.box k o (by simp)).2.2 with a | a
 ·omega
 ·exact c a
theorem ST.drop {A B : List (Nat × Obj)} {p : Nat × Obj} (h : ST dd F w W μ (A ++ p :: B)) : ST dd F w W μ (A ++ B) :=
 (h.xT (b := p.1) (o := p.2)).kC h.xR
end
abbrev pJ (α : Type) := gT → List Value → α → Prop
def Sl {α : Type} (R : pJ α) (k : Nat) (μ : gT) (v : Value) (l : List α) : Prop :=
 ∃ A c, v = .slice A l.length c ∧ l.length ≤ c ∧ c ≤ maxLen ∧ (0 < l.length → ∃ b off cs T fr, A = some ⟨b, off, none⟩ ∧ μ b = some (.cells cs T fr) ∧
  ∀ i x, l[i]? = some x → ∃ a, a.length = k ∧ R μ a x ∧ ∀ j y, a[j]? = some y → cs[off + i * k + j]? = some y)
def At (μ : gT) (v : Value) (a : List Value) : Prop :=
 ∃ b off cs T fr, v = .pointer (some ⟨b, off, none⟩) ∧ μ b = some (.cells cs T fr) ∧ ∀ j y, a[j]? = some y → cs[off + j]? = some y
def Fr (B : Nat) (v : Value) : Prop := ∀ b, v.ownBlock = some b → B ≤ b
def Bn {α : Type} (R : pJ α) : Prop := ∀ μ μ' a x, ig μ μ' → R μ a x → R μ' a x
def Pl {α : Type} (enc : α → List Value) : pJ α := fun _ a x => a = enc x
theorem Pl.mono {α : Type} (enc : α → List Value) : Bn (Pl enc) := fun _ _ _ _ _ h => h
theorem Sl.mono {α : Type} {R : pJ α} (s : Bn R) {k : Nat} {μ μ' : gT} {v : Value} {l : List α} (h : Sl R k μ v l) (d : ig μ μ') : Sl R k μ' v l := by
 obtain ⟨A, c, h1, g, j, m⟩ := h
 refine ⟨A, c, h1, g, j, fun t => ?_⟩
 obtain ⟨b, off, cs, T, fr, n, o, p⟩ := m t
 exact ⟨b, off, cs, T, fr, n, d _ _ o, fun i x u => let ⟨w, q, r, a⟩ := p i x u; ⟨w, q, s _ _ _ _ d r, a⟩⟩
theorem At.mono {μ μ' : gT} {v : Value} {a : List Value} (h : At μ v a) (g : ig μ μ') : At μ' v a := by
 obtain ⟨b, off, cs, T, fr, h1, c, d⟩ := h
 exact ⟨b, off, cs, T, fr, h1, g _ _ c, d⟩
theorem Sl.len {α : Type} {R : pJ α} {k : Nat} {μ : gT} {v : Value} {l : List α} (h : Sl R k μ v l) : l.length ≤ 9223372036854775807 := by
 obtain ⟨A, c, h1, b, a, d⟩ := h
 unfold maxLen at a
 omega
theorem Sl.nil {α : Type} (R : pJ α) (k : Nat) (μ : gT) : Sl R k μ (.slice none 0 0) [] := ⟨none, 0, rfl, aJ _, by decide, fun h => absurd h (by simp)⟩
theorem Fr.mono {B B' : Nat} {v : Value} (h : Fr B v) (a : B' ≤ B) : Fr B' v := fun b c => bk a (h b c)
theorem Fr.nil (B : Nat) : Fr B (.slice none 0 0) := fun b a => by simp [Value.ownBlock] at a
end Go.Proofs.YtbnbdigcbldfhaaGreat
namespace Go.Proofs.YtbnbdigcbldfhaaGreat
open Go.RowKit
variable [M : Md]
variable {dd : Bool}
section
variable {P : Program} {n : Nat} {Q : km} {E : Nat → Value} {W : World} {ops : Array Oper} {rest : List Oper}
 {d : Option Nat} {ty : TypeId} {pos : String} {af : Array Edge} {g : Option (Nat × Bool)}
 {F : Nat → Prop} {w : World} {μ : gT} {L : List (Nat × Obj)}
def iB (P : Program) (E : Nat → Value) (o : Oper) (W : World) (v : Value) (W' : World) : Prop := (execOp (gv E) o).run P W = .ok (.value v) W'
theorem yh {o : Oper} {dd : Nat} {v : Value} (hw : mA n ops E o) (a : o.dst = some dd) (b : dd < n) (c : iB P E o W v W) (h : LW P n ops Q rest (jC E dd v) W) : LW P n ops Q (o :: rest) E W := BZ hw a b c h
theorem gy {x : Operand} {v : Value} (a : gv E x = v) : iB P E ⟨d, .move x, ty, pos, af, g⟩ W v W := by rw [← a]; rfl
theorem kc {x : Operand} {v : Value} (a : gv E x = v) : iB P E ⟨d, .assign x, ty, pos, af, g⟩ W v W := by rw [← a]; rfl
theorem gK {c x y : Operand} {v : Value} (a : gv E c = .bool true) (b : gv E x = v) : iB P E ⟨d, .pick c x y, ty, pos, af, g⟩ W v W := by
 show (do pure (.value (if ← asBool (gv E c) then gv E x else gv E y)) : Sem Next).run P W = _
 rw [a, ← b]; simp [asBool]
theorem gJ {c x y : Operand} {v : Value} (a : gv E c = .bool false) (b : gv E y = v) : iB P E ⟨d, .pick c x y, ty, pos, af, g⟩ W v W := by
 show (do pure (.value (if ← asBool (gv E c) then gv E x else gv E y)) : Sem Next).run P W = _
 rw [a, ← b]; simp [asBool]
theorem oD {x : Operand} {i : Nat} {vs : Array Value} {v : Value} (b : gv E x = .tuple vs) (a : vs[i]? = some v) : iB P E ⟨d, .extract x i, ty, pos, af, g⟩ W v W := by
 show (do pure (.value (← Instr.extract (gv E x) i)) : Sem Next).run P W = _
 rw [b]; simp [Instr.extract, a]
theorem mZ {u : TypeId} {x : Operand} {b : Bool} (a : gv E x = .bool b) : iB P E ⟨d, .unOp .not u x, ty, pos, af, g⟩ W (.bool !b) W := by
 show (do pure (.value (← Op.unary .not (gv E x))) : Sem Next).run P W = _
 rw [a]; simp [Op.unary]
theorem Bl {fn : Fn} {first caps : Array Operand} {v : Value} (a : .func fn (first.map (gv E)) (caps.map (gv E)) = v) : iB P E ⟨d, .makeFunc fn first caps, ty, pos, af, g⟩ W v W := by
 show (do pure (.value (← Instr.makeFunc fn (first.map (gv E)) (caps.map (gv E)))) : Sem Next).run P W = _
 rw [← a]; simp [Instr.makeFunc]
def yX (k : IntKind) (op : BinOp) (a b : Int) : Option Value :=
 match op with
 | .eql => some (.bool (a == b))
 | .neq => some (.bool (a != b))
 | .lss => some (.bool (decide (a < b)))
 | .leq => some (.bool (decide (a ≤ b)))
 | .gtr => some (.bool (decide (a > b)))
 | .geq => some (.bool (decide (a ≥ b)))
 | .add => some (.int k (k.wrap (a + b)))
 | .sub => some (.int k (k.wrap (a - b)))
 | .mul => some (.int k (k.wrap (a * b)))
 | _ => none
theorem iX {op : BinOp} {c l : TypeId} {x y : Operand} {k : IntKind} {a b : Int} {v : Value} (i : gv E x = .int k a) (j : gv E y = .int k b) (h : yX k op a b = some v) :
  iB P E ⟨d, .binOp op c x y l, ty, pos, af, g⟩ W v W := by
 show (do let r ← (do eqGuard op c x y (gv E x) (gv E y); binOp op c (gv E x) (gv E y)); pure (.value r) : Sem Next).run P W = _
 rw [i, j]
 cases op <;> simp [yX] at h <;> subst h <;> simp [eqGuard, binOp, Op.intCmp, Op.intArith]
def DM (op : BinOp) (a b : ByteArray) : Option Value :=
 match op with
 | .eql => some (.bool (a.toList == b.toList))
 | .neq => some (.bool !(a.toList == b.toList))
 | .lss => some (.bool (Op.bytesLess a.toList b.toList))
 | .leq => some (.bool (Op.bytesLess a.toList b.toList || a.toList == b.toList))
 | .gtr => some (.bool !(Op.bytesLess a.toList b.toList || a.toList == b.toList))
 | .geq => some (.bool !(Op.bytesLess a.toList b.toList))
 | _ => none
def qS (a b : ByteArray) : Option ByteArray := if ((a.size + b.size : Nat) : Int) > IntKind.i64.max then none else some (a ++ b)
theorem lY {op : BinOp} {c k : TypeId} {x y : Operand} {a b : ByteArray} {v : Value} (i : gv E x = .string a) (j : gv E y = .string b) (h : DM op a b = some v) :
  iB P E ⟨d, .binOp op c x y k, ty, pos, af, g⟩ W v W := by
 show (do let r ← (do eqGuard op c x y (gv E x) (gv E y); binOp op c (gv E x) (gv E y)); pure (.value r) : Sem Next).run P W = _
 rw [i, j]
 cases op <;> simp [DM] at h <;> subst h <;> simp [eqGuard, binOp, Op.stringOp]
theorem rU {h k : TypeId} {x y : Operand} {a b r : ByteArray} (i : gv E x = .string a) (j : gv E y = .string b) (c : qS a b = some r) :
  iB P E ⟨d, .binOp .add h x y k, ty, pos, af, g⟩ W (.string r) W := by
 show (do let r ← (do eqGuard .add h x y (gv E x) (gv E y); binOp .add h (gv E x) (gv E y)); pure (.value r) : Sem Next).run P W = _
 rw [i, j]
 simp only [qS] at c
 split at c
 ·cases c
 ·rename_i hle; cases c; simp [eqGuard, binOp, Op.stringOp]; simpa using hle
theorem En {op : BinOp} {c l : TypeId} {x y : Operand} {a b : Bool} (i : P.underlying c = some .bool) (j : gv E x = .bool a) (k : gv E y = .bool b) (h : op = .eql) :
  iB P E ⟨d, .binOp op c x y l, ty, pos, af, g⟩ W (.bool (a == b)) W := by
 subst h
 show (do let r ← (do eqGuard .eql c x y (gv E x) (gv E y); binOp .eql c (gv E x) (gv E y)); pure (.value r) : Sem Next).run P W = _
 rw [j, k]
 simp [eqGuard, binOp, Op.equal, Op.maxDepth, run_equalIn_bool' W 9999 c a b i]
theorem od {c l : TypeId} {x y : Operand} {a b : Array Value} {r : Bool} (j : gv E x = .agg a) (k : gv E y = .agg b) (h : ∀ W, (eqGuard .eql c x y (.agg a) (.agg b)).run P W = .ok () W) (i : ∀ W, (binOp .eql c (.agg a) (.agg b)).run P W = .ok (.bool r) W) : iB P E ⟨d, .binOp .eql c x y l, ty, pos, af, g⟩ W (.bool r) W := by
 show (do let r ← (do eqGuard .eql c x y (gv E x) (gv E y); binOp .eql c (gv E x) (gv E y)); pure (.value r) : Sem Next).run P W = _
 rw [j, k]; simp [h W, i W]
theorem za {c l : TypeId} {x y : Operand} {a b : Array Value} {r : Bool} (j : gv E x = .agg a) (k : gv E y = .agg b) (h : ∀ W, (eqGuard .neq c x y (.agg a) (.agg b)).run P W = .ok () W) (i : ∀ W, (binOp .neq c (.agg a) (.agg b)).run P W = .ok (.bool r) W) : iB P E ⟨d, .binOp .neq c x y l, ty, pos, af, g⟩ W (.bool r) W := by
 show (do let r ← (do eqGuard .neq c x y (gv E x) (gv E y); binOp .neq c (gv E x) (gv E y)); pure (.value r) : Sem Next).run P W = _
 rw [j, k]; simp [h W, i W]
theorem sT {t e : TypeId} (dd : Nat) (b : P.underlying t = some (.pointer e)) (a : Option Addr) (W : World) : (Op.equalIn (dd + 1) t (.pointer a) (.pointer none)).run P W = .ok a.isNone W := by
 cases a <;> simp [Op.equalIn, aq b]
theorem qE {b k e : TypeId} {x y : Operand} {a : Option Addr} (h : P.underlying b = some (.pointer e)) (i : gv E x = .pointer a) (j : gv E y = .pointer none) :
  iB P E ⟨d, .binOp .eql b x y k, ty, pos, af, g⟩ W (.bool a.isNone) W := by
 show (do let r ← (do eqGuard .eql b x y (gv E x) (gv E y); binOp .eql b (gv E x) (gv E y)); pure (.value r) : Sem Next).run P W = _
 rw [i, j]
 have c := sT 9999 h a W
 simp [eqGuard, binOp, Op.equal, show Op.maxDepth = 9999 + 1 from rfl, c]
theorem xD {b k e : TypeId} {x y : Operand} {a : Option Addr} (h : P.underlying b = some (.pointer e)) (i : gv E x = .pointer a) (j : gv E y = .pointer none) :
  iB P E ⟨d, .binOp .neq b x y k, ty, pos, af, g⟩ W (.bool !a.isNone) W := by
 show (do let r ← (do eqGuard .neq b x y (gv E x) (gv E y); binOp .neq b (gv E x) (gv E y)); pure (.value r) : Sem Next).run P W = _
 rw [i, j]
 have c := sT 9999 h a W
 simp [eqGuard, binOp, Op.equal, show Op.maxDepth = 9999 + 1 from rfl, c]
theorem mi {x : Operand} {t : TypeId} {s : ByteArray} (a : P.underlying t = some .string) (b : gv E x = .string s) : iB P E ⟨d, .call ⟨.builtin .len, #[x], #[t]⟩, ty, pos, af, g⟩ W (.int .i64 s.size) W := by
 show (do let d ← resolve (gv E) ⟨.builtin .len, #[x], #[t]⟩ ty; invoke d.target d.args : Sem Next).run P W = _
 simp [resolve, invoke, builtin, Builtin.len_, aq a, b, goInt]
theorem vP {x : Operand} {t e : TypeId} {A : Option Addr} {l c : Nat} (a : P.underlying t = some (.slice e)) (b : gv E x = .slice A l c) : iB P E ⟨d, .call ⟨.builtin .len, #[x], #[t]⟩, ty, pos, af, g⟩ W (.int .i64 l) W := by
 show (do let d ← resolve (gv E) ⟨.builtin .len, #[x], #[t]⟩ ty; invoke d.target d.args : Sem Next).run P W = _
 simp [resolve, invoke, builtin, Builtin.len_, aq a, b, goInt]
theorem kF {α : Type} {R : pJ α} {k : Nat} {m : gT} {x : Operand} {t e : TypeId} {v : Value} {l : List α} (b : P.underlying t = some (.slice e)) (h : gv E x = v) (a : Sl R k m v l) : iB P E ⟨d, .call ⟨.builtin .len, #[x], #[t]⟩, ty, pos, af, g⟩ W (.int .i64 l.length) W := by
 obtain ⟨A, c, rfl, _⟩ := a
 exact vP b h
theorem sd {t : TypeId} {x a : Operand} {m : IntKind} {s : ByteArray} {i : Int} {c : UInt8} (k : P.underlying t = some .string) (l : gv E x = .string s) (h : gv E a = .int m i) (b : 0 ≤ i) (j : s[i.toNat]? = some c) :
  iB P E ⟨d, .index t x a, ty, pos, af, g⟩ W (.int .u8 c.toNat) W := by
 show (do pure (.value (← Instr.index t (gv E x) (gv E a))) : Sem Next).run P W = _
 rw [l, h]
 simp [Instr.index, asIntOf, aq k, b, j]
def jD (P : Program) (t : TypeId) (f off : Nat) : Prop := ∀ b o w, (Instr.fieldAt t (.pointer (some ⟨b, o, none⟩)) f).run P w = .ok (.pointer (some ⟨b, o + off, none⟩)) w
theorem gA {t : TypeId} {x : Operand} {f off b o : Nat} (a : jD P t f off) (c : gv E x = .pointer (some ⟨b, o, none⟩)) : iB P E ⟨d, .fieldAddr t x f, ty, pos, af, g⟩ W (.pointer (some ⟨b, o + off, none⟩)) W := by
 show (do pure (.value (← Instr.fieldAt t (gv E x) f)) : Sem Next).run P W = _
 rw [c]; simp [a b o W]
theorem rB {t : TypeId} {x : Operand} {f off : Nat} {v : Value} {i : List Value} (a : List Value) (l : jD P t f off) (p : gv E x = v) (n : At μ v i) (q : (i.drop off).take a.length = a) :
  ∃ h, At μ h a ∧ ∀ W, iB P E ⟨d, .fieldAddr t x f, ty, pos, af, g⟩ W h W := by
 obtain ⟨b, o, cs, T, fr, rfl, h1, k⟩ := n
 refine ⟨_, ⟨b, o + off, cs, T, fr, rfl, h1, fun j y c => ?_⟩, fun W => gA l p⟩
 have m : j < a.length := (aC.1 c).1
 have := k (off + j) y (by
  rw [← q, cw m, cj] at c
  exact c)
 rw [dh]
 exact this
theorem jo {x : Operand} {a : Addr} (b : gv E x = .pointer (some a)) : iB P E ⟨d, .nilCheck x, ty, pos, af, g⟩ W (.pointer (some a)) W := by
 unfold iB execOp
 simp [b]
theorem D4 {α : Type} {R : pJ α} {k : Nat} {t e : TypeId} {x m : Operand} {U : IntKind} {v : Value} {i : Int} {l : List α} {x0 : α} (M : P.underlying t = some (.slice e)) (he : ∀ w, (sizeOf e).run P w = .ok k w) (O : gv E x = v) (J : gv E m = .int U i) (L : Sl R k μ v l) (o : 0 ≤ i) (n : l[i.toNat]? = some x0) :
  ∃ p a, a.length = k ∧ R μ a x0 ∧ At μ p a ∧ ∀ W, iB P E ⟨d, .indexAddr t x m, ty, pos, af, g⟩ W p W := by
 obtain ⟨A, c, rfl, Y, Z, q⟩ := L
 have K : i.toNat < l.length := (aC.1 n).1
 obtain ⟨b, off, cs, T, fr, rfl, r, s⟩ := q (by omega)
 obtain ⟨a, u, G, h⟩ := s i.toNat x0 n
 refine ⟨.pointer (some ⟨b, off + i.toNat * k, none⟩), a, u, G, ⟨b, off + i.toNat * k, cs, T, fr, rfl, r, fun j y Q => h j y Q⟩, fun W => ?_⟩
 show (do pure (.value (← Instr.indexAt t (gv E x) (gv E m))) : Sem Next).run P W = _
 rw [O, J]
 have I : 0 ≤ i ∧ i < (l.length : Int) := ⟨o, by omega⟩
 simp [Instr.indexAt, asIntOf, aq M, he W, I, cg]
theorem iZ {α : Type} {enc : α → List Value} {k : Nat} {t e : TypeId} {x a : Operand} {s : IntKind} {v : Value} {i : Int} {l : List α} {x0 : α} (q : P.underlying t = some (.slice e)) (he : ∀ w, (sizeOf e).run P w = .ok k w) (r : gv E x = v) (m : gv E a = .int s i) (o : Sl (Pl enc) k μ v l) (b : 0 ≤ i) (n : l[i.toNat]? = some x0) :
  ∃ p, At μ p (enc x0) ∧ ∀ W, iB P E ⟨d, .indexAddr t x a, ty, pos, af, g⟩ W p W := by
 obtain ⟨p, u, h1, c, h, j⟩ := D4 (d := d) (ty := ty) (pos := pos) (af := af) (g := g) q he r m o b n
 cases c
 exact ⟨p, h, j⟩
theorem yR (P : Program) {W : World} {b off : Nat} {cs : Array Value} {T : TypeId} {fr : Nat × Nat} (c : W.heap[b]? = some (.cells cs T fr)) (a : List Value) (g : ∀ j y, a[j]? = some y → cs[off + j]? = some y) :
  (loadCells ⟨b, off, none⟩ a.length).run P W = .ok a.toArray W :=
 eQ W ⟨b, off, none⟩ a (fun j v d => by rw [cg, eb W b (off + j) cs T fr c]; exact g j v d)
theorem tr {W : World} {t : TypeId} {b off : Nat} {cs : Array Value} {T : TypeId} {fr : Nat × Nat} (c : ∀ w, (isAgg t).run P w = .ok true w) (a : List Value) (d : ∀ w, (sizeOf t).run P w = .ok a.length w) (g : W.heap[b]? = some (.cells cs T fr)) (h : ∀ j y, a[j]? = some y → cs[off + j]? = some y) : (Instr.loadAt t (.pointer (some ⟨b, off, none⟩))).run P W = .ok (.agg a.toArray) W := by
 simp [Instr.loadAt, Instr.sureAddr, loadVar, c W, d W, yR P g a h]
theorem tz {W : World} {t : TypeId} {b off : Nat} {cs : Array Value} {T : TypeId} {fr : Nat × Nat} (a : ∀ w, (isAgg t).run P w = .ok false w) {y : Value} (c : W.heap[b]? = some (.cells cs T fr)) (g : cs[off]? = some y) : (Instr.loadAt t (.pointer (some ⟨b, off, none⟩))).run P W = .ok y W := by
 have d : W.cell? ⟨b, off, none⟩ = some y := by rw [eb W b off cs T fr c]; exact g
 simp [Instr.loadAt, Instr.sureAddr, loadVar, a W, load, Sem.run, d]
theorem gu {t : TypeId} {x : Operand} {a v : Value} (c : gv E x = a) (b : (Instr.loadAt t a).run P W = .ok v W) : iB P E ⟨d, .load t x, ty, pos, af, g⟩ W v W := by
 show (do pure (.value (← Instr.loadAt t (gv E x))) : Sem Next).run P W = _
 rw [c]; simp [b]
def mu (μ : gT) (A : List (Nat × Obj)) (W : World) : Prop := (∀ b o, μ b = some o → W.heap[b]? = some o) ∧ ∀ b o, (b, o) ∈ A → W.heap[b]? = some o
theorem ST.has (h : ST dd F w W μ L) : mu μ L W := ⟨h.mem, fun b o a => (h.box b o a).1⟩
theorem mu.sub {μ' : gT} {A A' : List (Nat × Obj)} (h : mu μ A W) (d : ig μ' μ) (c : ∀ p, p ∈ A' → p ∈ A) : mu μ' A' W := ⟨fun b o a => h.1 b o (d b o a), fun b o a => h.2 b o (c _ a)⟩
theorem jM {A : List (Nat × Obj)} (hH : mu μ A W) {t : TypeId} {p : Value} {a : List Value} (hp : At μ p a) (d : ∀ w, (isAgg t).run P w = .ok true w) (g : ∀ w, (sizeOf t).run P w = .ok a.length w) :
  (Instr.loadAt t p).run P W = .ok (.agg a.toArray) W := by
 obtain ⟨b, off, cs, T, fr, rfl, h1, c⟩ := hp
 exact tr d a g (hH.1 _ _ h1) c
theorem kT {A : List (Nat × Obj)} (hH : mu μ A W) {t : TypeId} {p y : Value} (hp : At μ p [y]) (c : ∀ w, (isAgg t).run P w = .ok false w) :
  (Instr.loadAt t p).run P W = .ok y W := by
 obtain ⟨b, off, cs, T, fr, rfl, h1, a⟩ := hp
 exact tz c (hH.1 _ _ h1) (a 0 y rfl)
theorem gD {A : List (Nat × Obj)} (hH : mu μ A W) {t : TypeId} {b off : Nat} {cs : Array Value} {T : TypeId} {fr : Nat × Nat} (h : (b, Obj.cells cs T fr) ∈ A) (a : List Value) (k : (cs.toList.drop off).take a.length = a) (g : ∀ w, (isAgg t).run P w = .ok true w) (i : ∀ w, (sizeOf t).run P w = .ok a.length w) : (Instr.loadAt t (.pointer (some ⟨b, off, none⟩))).run P W = .ok (.agg a.toArray) W :=
 tr g a i (hH.2 _ _ h) (fun j y c => by
  have d : j < a.length := (aC.1 c).1
  rw [← k, cw d, cj] at c
  simpa using c)
theorem gL {A : List (Nat × Obj)} (hH : mu μ A W) {t : TypeId} {b off : Nat} {cs : Array Value} {T : TypeId} {fr : Nat × Nat} (c : (b, Obj.cells cs T fr) ∈ A) {y : Value} (d : cs[off]? = some y) (a : ∀ w, (isAgg t).run P w = .ok false w) : (Instr.loadAt t (.pointer (some ⟨b, off, none⟩))).run P W = .ok y W :=
 tz a (hH.2 _ _ c) d
theorem ko {t : TypeId} {a : Array (Nat × Operand)} {qs : Array (Nat × Value)} {v : Value} (b : a.map (fun (i, x) => (i, gv E x)) = qs) (c : ∀ W, (Instr.build t qs).run P W = .ok v W) : iB P E ⟨d, .build t a, ty, pos, af, g⟩ W v W := by
 show (do pure (.value (← Instr.build t (a.map fun (i, x) => (i, gv E x)))) : Sem Next).run P W = _
 rw [b]; simp [c W]
theorem jq {t : TypeId} {z cs : Array Value} {fs : Array Field} {qs : Array (Nat × Value)} {pl : Array (Nat × Nat)} (c : ∀ w, (zeroValue t).run P w = .ok (.agg z) w) (b : P.underlying t = some (.struct fs)) (hp : ∀ w, (fs.mapM fun f => do pure (f.offset, ← sizeOf f.type) : Sem (Array (Nat × Nat))).run P w = .ok pl w) (a : Instr.fill (pl[·]?) z qs.toList = some cs) (W : World) : (Instr.build t qs).run P W = .ok (.agg cs) W := by
 simp only [Instr.build, aQ, c W, aH, aq b, Value.cells]
 rw [hp W]
 simp only [aH, a, bA]
end
theorem vn {α : Type} : ∀ (a : Ask α) (w : World), w.drawn ≤ (w.ask a).2.drawn
 | .done a, w => by simp [World.ask]
 | .ask b range k, w => by
  unfold World.ask
  dsimp only
  split
  ·exact vn (k 0) w
  ·refine bk (fp w.drawn) ?_
   exact vn _ { w with drawn := w.drawn + 1 }
theorem CF (w : World) (c : Sys) : w.drawn ≤ (w.sys c).2.drawn := by
 have h := vn (Kernel.perform c w.os) w
 unfold World.sys
 generalize w.ask (Kernel.perform c w.os) = r at *
 obtain ⟨⟨a, b⟩, w2⟩ := r
 cases a <;> simp at h ⊢ <;> exact h
theorem xz {p : Program} {w c : World} {a : Addr} {u : TypeId} {k : Addr} {v : Value} {b : Bool} {l : List Addr} (h : w.viewStore p a u k v b = .ok (c, l)) : c.drawn = w.drawn := by
 unfold World.viewStore at h
 simp only [bind, Except.bind, pure, Except.pure] at h
 split at h
 ·cases h
 ·split at h
  ·cases h
  ·split at h
   ·split at h
    ·cases h
    ·split at h
     ·cases h
     ·cases h; rfl
   ·cases h
theorem yb {p : Program} {w c : World} {a : Addr} {v : Value} {b : Bool} {l : List Addr} (h : w.farStore p a v b = .ok (c, l)) : c.drawn = w.drawn := by
 unfold World.farStore at h
 split at h
 ·split at h
  ·rename_i h1; cases h; exact xz h1
  ·cases h
 ·cases h
theorem ku {α : Type} {p : Program} : ∀ (s : Sem α) (w d : World) (a : α), s.run p w = .ok a d → w.drawn ≤ d.drawn
 | .pure a, w, d, b, h => by simp only [Sem.run] at h; cases h; exact aJ _
 | .load m a k, w, d, b, h => by
  simp only [Sem.run] at h
  split at h
  ·exact ku _ _ _ _ h
  ·split at h
   ·exact ku _ _ _ _ h
   ·cases h
 | .store m a v k, w, d, b, h => by
  have key : ∀ (r : Result α) i, r = .ok b d → (r = (match w.cell? a with
    | some _ => if w.frozen? a then .halt i w else k.run p (w.setCell a v)
    | none => match w.farStore p a v (m == .atomic) with
     | .ok (w, _) => k.run p w
     | .error h => .halt h w)) → w.drawn ≤ d.drawn := by
   intro r i j h
   rw [j] at h
   split at h
   ·split at h
    ·cases h
    ·have := ku k _ _ _ h.symm
     simpa [World.setCell] using this
   ·split at h
    ·rename_i h1
     have g := ku k _ _ _ h.symm
     rw [yb h1] at g
     exact g
    ·cases h
  cases v with
  | agg cs => simp only [Sem.run] at h; cases h
  | tuple cs => simp only [Sem.run] at h; cases h
  | _ => exact key _ _ h (by simp only [Sem.run]; rfl)
 | .new o k, w, d, b, h => by simp only [Sem.run] at h; have := ku (k _) _ _ _ h; exact this
 | .shape r k, w, d, b, h => by simp only [Sem.run] at h; exact ku _ _ _ _ h
 | .freeze a n k, w, d, b, h => by
  simp only [Sem.run] at h
  have := ku k _ _ _ h
  unfold World.freeze at this
  split at this <;> exact this
 | .frozen a k, w, d, b, h => by simp only [Sem.run] at h; exact ku _ _ _ _ h
 | .getObj r k, w, d, b, h => by
  simp only [Sem.run] at h
  split at h <;> try (cases h; done)
  exact ku _ _ _ _ h
 | .setObj r o k, w, d, b, h => by
  simp only [Sem.run] at h
  split at h <;> try (cases h; done)
  have := ku k _ _ _ h
  exact this
 | .choose q k, w, d, b, h => by
  simp only [Sem.run] at h
  split at h
  ·exact ku _ _ _ _ h
  ·exact bk (fp _) (ku _ _ _ _ h)
 | .sys c k, w, d, b, h => by
  simp only [Sem.run] at h
  exact bk (CF w c) (ku _ _ _ _ h)
 | .program k, w, d, b, h => by simp only [Sem.run] at h; exact ku _ _ _ _ h
 | .mark m k, w, d, b, h => by simp only [Sem.run] at h; exact ku k _ _ _ h
 | .halt x, w, d, b, h => by simp only [Sem.run] at h; cases h
end Go.Proofs.YtbnbdigcbldfhaaGreat
namespace Go.Proofs.YtbnbdigcbldfhaaGreat
open Go.RowKit
variable [M : Md]
variable {dd : Bool}
section
variable {P : Program} {n : Nat} {Q : km} {E : Nat → Value} {W : World} {ops : Array Oper} {rest : List Oper}
 {d : Option Nat} {ty : TypeId} {pos : String} {af : Array Edge} {g : Option (Nat × Bool)}
 {F : Nat → Prop} {w : World} {μ : gT} {L : List (Nat × Obj)}
def jx (P : Program) (E : Nat → Value) (o : Oper) (W : World) (K : Value → World → Prop) : Prop :=
 (∃ v W', (execOp (gv E) o).run P W = .ok (.value v) W' ∧ K v W') ∨ (∃ W', (execOp (gv E) o).run P W = .ok .skip W' ∧ K undef W') ∨
 (∃ f args, (execOp (gv E) o).run P W = .ok (.enter f args) W ∧ Calls P f args W fun e a => ∃ v, e = .returned v ∧ K v a)
theorem jx.mono {o : Oper} {K K' : Value → World → Prop} (h : jx P E o W K) (hk : ∀ v W', K v W' → K' v W') : jx P E o W K' := by
 rcases h with ⟨v, W', h1, a⟩ | ⟨W', h1, a⟩ | ⟨f, args, h1, a⟩
 ·exact .inl ⟨v, W', h1, hk _ _ a⟩
 ·exact .inr (.inl ⟨W', h1, hk _ _ a⟩)
 ·exact .inr (.inr ⟨f, args, h1, bG a (fun _ _ ⟨v, b, c⟩ => ⟨v, b, hk _ _ c⟩)⟩)
theorem EV {o : Oper} {dd : Nat} (hw : mA n ops E o) (d : o.dst = some dd) (g : dd < n) (h : jx P E o W fun v W' => LW P n ops Q rest (jC E dd v) W') : LW P n ops Q (o :: rest) E W := by
 rcases h with ⟨v, W', h1, b⟩ | ⟨W', h1, b⟩ | ⟨f, args, h1, b⟩
 ·exact BZ hw d g h1 b
 ·intro a c
  unfold wpListIn
  rw [ar (hw.of c)]
  unfold Oper.wpIn
  refine ⟨fun _ _ => trivial, ?_⟩
  rw [c.eval, qf h1 (by simp), Oper.uponIn_skip, d]
  exact b _ (c.put g _)
 ·exact C8 hw d g h1 b
theorem Fo {o : Oper} (hw : mA n ops E o) (d : o.dst = none) (h : jx P E o W fun _ W' => LW P n ops Q rest E W') : LW P n ops Q (o :: rest) E W := by
 rcases h with ⟨v, W', h1, c⟩ | ⟨W', h1, c⟩ | ⟨f, args, h1, c⟩
 ·intro a b
  unfold wpListIn
  rw [ar (hw.of b)]
  unfold Oper.wpIn
  refine ⟨fun _ _ => trivial, ?_⟩
  rw [b.eval, qf h1 (by simp), Oper.uponIn_value, d]
  exact c _ (b.qV _)
 ·exact Dg hw d h1 c
 ·intro a b
  unfold wpListIn
  rw [ar (hw.of b)]
  unfold Oper.wpIn
  refine ⟨fun _ _ => trivial, ?_⟩
  rw [b.eval, qf h1 (by simp), Oper.uponIn_enter]
  refine xO (bG c ?_)
  rintro e i ⟨v, rfl, g⟩
  simp only [d]
  exact g _ (b.qV _)
theorem iP {K : Value → World → Prop} {t : TypeId} {x : Operand} {v : Value} (a : ST dd F w W μ L) (c : gv E x = v) (h : ∀ W' b, ST dd F w W' μ ((b, .cells v.cells t (0, 0)) :: L) → K (.pointer (some ⟨b, 0, none⟩)) W') : jx P E ⟨d, .box t x, ty, pos, af, g⟩ W K :=
 .inl ⟨.pointer (some ⟨W.heap.size, 0, none⟩), W.alloc (.cells v.cells t (0, 0)), by
   show (do pure (.value (← Instr.box t (gv E x))) : Sem Next).run P W = _
   rw [c]
   simp [Instr.box, newVar, newRow, newObj, Sem.run], h _ _ (a.alloc _)⟩
theorem iw {K : Value → World → Prop} {t : TypeId} {z : Value} (a : ST dd F w W μ L) (c : ∀ w, (zeroValue t).run P w = .ok z w) (h : ∀ W' b, ST dd F w W' μ ((b, .cells z.cells t (0, 0)) :: L) → K (.pointer (some ⟨b, 0, none⟩)) W') : jx P E ⟨d, .alloc t, ty, pos, af, g⟩ W K :=
 .inl ⟨.pointer (some ⟨W.heap.size, 0, none⟩), W.alloc (.cells z.cells t (0, 0)), by
   show (do pure (.value (← Instr.alloc t true (.tuple #[]))) : Sem Next).run P W = _
   simp [Instr.alloc, c W, newVar, newRow, newObj, Sem.run], h _ _ (a.alloc _)⟩
theorem xL {t e : TypeId} {m k : Nat} {z : Value} {qs : Array (Nat × Value)} {cs : Array Value} (d : P.underlying t = some (.slice e)) (c : ∀ w, (sizeOf e).run P w = .ok k w) (g : ∀ w, (zeroValue e).run P w = .ok z w) (hm : m * k ≤ 16777216) (a : Instr.fill (fun i => some (i * k, k)) ((Array.range (m * k)).map (fun i => (if m * k = 0 then (#[] : Array Value) else z.cells)[i % (if m * k = 0 then (#[] : Array Value) else z.cells).size]!)) qs.toList = some cs) (W : World) :
  (Instr.buildSlice t m qs).run P W = .ok (.slice (some ⟨W.heap.size, 0, none⟩) m m) (W.alloc (.cells cs e (0, 0))) := by
 simp only [Instr.buildSlice, aQ, aq d, aH, c W]
 rw [al (by omega)]
 by_cases b : m * k = 0
 ·simp only [b, bi] at a ⊢
  simp only [aQ, bA, aH, a]
  simp [newRow, newObj, Sem.run]
 ·simp only [b, bf] at a ⊢
  simp only [aQ, g W, bA, aH, a]
  simp [newRow, newObj, Sem.run]
theorem gS {K : Value → World → Prop} {t e : TypeId} {m : Nat} {c : Array (Nat × Operand)} {qs : Array (Nat × Value)} {cs : Array Value} (a : ST dd F w W μ L) (j : c.map (fun (i, x) => (i, gv E x)) = qs) (k : ∀ W, (Instr.buildSlice t m qs).run P W = .ok (.slice (some ⟨W.heap.size, 0, none⟩) m m) (W.alloc (.cells cs e (0, 0)))) (h : ∀ W' b, ST dd F w W' μ ((b, .cells cs e (0, 0)) :: L) → K (.slice (some ⟨b, 0, none⟩) m m) W') : jx P E ⟨d, .buildSlice t m c, ty, pos, af, g⟩ W K :=
 .inl ⟨.slice (some ⟨W.heap.size, 0, none⟩) m m, W.alloc (.cells cs e (0, 0)), by
   show (do pure (.value (← Instr.buildSlice t m (c.map fun (i, x) => (i, gv E x)))) : Sem Next).run P W = _
   rw [j]
   simp [k W], h _ _ (a.alloc _)⟩
theorem ST.store {A B : List (Nat × Obj)} {b : Nat} {cs : Array Value} {t : TypeId} (c : ST dd F w W μ (A ++ (b, .cells cs t (0, 0)) :: B)) (a : Array Value) :
  ST dd F w (W.setRow b a) μ (A ++ (b, .cells a t (0, 0)) :: B) := by
 have d := (c.box b _ (by simp : (b, Obj.cells cs t (0, 0)) ∈ A ++ (b, .cells cs t (0, 0)) :: B)).1
 refine c.put ⟨rfl, rfl, rfl, aJ _, by simp [World.setRow]⟩ (fun k hk => ?_) (setRow_heap W b cs a t (0, 0) d)
 simp only [World.setRow, cd]
 rw [al (fun e => hk e.symm)]
theorem tF (P : Program) {W : World} {t : TypeId} {b off : Nat} {cs : Array Value} {T : TypeId} (v : Value) (a : ∀ w, (sizeOf t).run P w = .ok v.cells.size w) (h1 : ∀ u ∈ v.cells.toList, u.oneCell' = true) (c : W.heap[b]? = some (.cells cs T (0, 0))) (d : off + v.cells.size ≤ cs.size) : (Instr.storeAt t (.pointer (some ⟨b, off, none⟩)) v).run P W = .ok () (W.setRow b (cs.toList.take off ++ v.cells.toList ++ cs.toList.drop (off + v.cells.size)).toArray) := by
 have := fq (P := P) b off T v.cells.toList 0 cs W c (by simpa using d) h1
 simp [Instr.storeAt, Instr.sureAddr, storeVar, a W]
 simpa using this
theorem vR {K : Value → World → Prop} (A : List (Nat × Obj)) {B : List (Nat × Obj)} {t : TypeId} {x y : Operand} (v : Value) {b off : Nat} {cs : Array Value} {T : TypeId} (a : Array Value) (c : ST dd F w W μ (A ++ (b, .cells cs T (0, 0)) :: B)) (m : gv E x = .pointer (some ⟨b, off, none⟩)) (n : gv E y = v) (i : ∀ w, (sizeOf t).run P w = .ok v.cells.size w) (h1 : ∀ u ∈ v.cells.toList, u.oneCell' = true) (l : off + v.cells.size ≤ cs.size) (k : (cs.toList.take off ++ v.cells.toList ++ cs.toList.drop (off + v.cells.size)).toArray = a) (h : ∀ W', ST dd F w W' μ (A ++ (b, .cells a T (0, 0)) :: B) → K undef W') : jx P E ⟨d, .store t x y, ty, pos, af, g⟩ W K :=
 .inr (.inl ⟨W.setRow b a, by
   show (do Instr.storeAt t (gv E x) (gv E y); pure .skip : Sem Next).run P W = _
   have j := (c.box b _ (by simp : (b, Obj.cells cs T (0, 0)) ∈ A ++ (b, .cells cs T (0, 0)) :: B)).1
   rw [m, n]
   simp only [aQ, tF P v i h1 j l, k, aH, bA], h _ (c.store a)⟩)
def iC (dd : Bool) (P : Program) (f : FuncId) (args : List Value) (w : World) (v : Value) : Prop := Calls P f args.toArray w fun e a => e = .returned v ∧ Ex dd w a
theorem BU {f : FuncId} {fv : Operand} {ax : Array Operand} {ats : Array TypeId} {caps args : Array Value} (b : gv E fv = .func (.func f) #[] caps) (he : ∀ args w, (callFunc f args).run P w = .ok (.enter f args) w) (a : ax.map (gv E) ++ caps = args) :
  (execOp (gv E) ⟨d, .call ⟨.value fv, ax, ats⟩, ty, pos, af, g⟩).run P W = .ok (.enter f args) W := by
 show (do let d ← resolve (gv E) ⟨.value fv, ax, ats⟩ ty; invoke d.target d.args : Sem Next).run P W = _
 rw [← a]
 simp only [resolve, b, Deferred.ofValue, aQ, bA, aH, invoke]
 simp [he]
theorem xY {K : Value → World → Prop} {f : FuncId} {fv : Operand} {ax : Array Operand} {ats : Array TypeId} {caps args : Array Value} (b : gv E fv = .func (.func f) #[] caps) (he : ∀ args w, (callFunc f args).run P w = .ok (.enter f args) w) (a : ax.map (gv E) ++ caps = args) (h : Calls P f args W fun e c => ∃ v, e = .returned v ∧ K v c) : jx P E ⟨d, .call ⟨.value fv, ax, ats⟩, ty, pos, af, g⟩ W K :=
 .inr (.inr ⟨f, args, BU b he a, h⟩)
theorem Ek {K : Value → World → Prop} {f : FuncId} {fv : Operand} {ax : Array Operand} {ats : Array TypeId} {args : List Value} {v : Value} (a : ST dd F w W μ L) (j : gv E fv = .func (.func f) #[] #[]) (he : ∀ args w, (callFunc f args).run P w = .ok (.enter f args) w) (c : (ax.map (gv E) ++ (#[] : Array Value)) = args.toArray) (i : iC dd P f args W v) (h : ∀ W', ST dd F w W' μ L → K v W') : jx P E ⟨d, .call ⟨.value fv, ax, ats⟩, ty, pos, af, g⟩ W K :=
 xY j he c (bG i (fun _ _ ⟨h1, b⟩ => ⟨v, h1, h _ (a.Bz b)⟩))
def gI {α : Type} (e : TypeId) (enc : α → List Value) (k : Nat) (v : Value) (l : List α) (R : List (Nat × Obj)) : Prop :=
 (v = .slice none 0 0 ∧ l = [] ∧ R = []) ∨
 ∃ g cap a, v = .slice (some ⟨g, 0, none⟩) l.length cap ∧ R = [(g, .cells a e (0, 0))] ∧ l.length ≤ cap ∧ cap ≤ maxLen ∧ a.size = cap * k ∧ a.toList.take (l.length * k) = (l.map enc).flatten
theorem lC {α : Type} {enc : α → List Value} {k : Nat} (hk : ∀ x, (enc x).length = k) : ∀ l : List α, (l.map enc).flatten.length = l.length * k
 | [] => by simp
 | x :: l => by simp [lC hk l, hk x, aZ, Nat.add_comm]
theorem qQ {α : Type} {enc : α → List Value} {k : Nat} (hk : ∀ x, (enc x).length = k) : ∀ (l : List α) (i : Nat) (x : α), l[i]? = some x → ∀ j y, (enc x)[j]? = some y → (l.map enc).flatten[i * k + j]? = some y
 | [], i, x, h => by cases h
 | z :: l, 0, x, h => by
  simp at h; subst h
  intro j y a
  have b : j < (enc z).length := (aC.1 a).1
  simp [dB, b]
  rw [bX b] at a
  simpa using a
 | z :: l, i + 1, x, h => by
  intro j y a
  have := qQ hk l i x (by simpa using h) j y a
  simp only [aN, bP]
  rw [dC (by rw [hk z]; have := Nat.le_mul_of_pos_left k (Nat.succ_pos i); simp [aZ] at *; omega), hk z]
  rw [show (i + 1) * k + j - k = i * k + j by rw [aZ]; omega]
  exact this
theorem wM {α : Type} {enc : α → List Value} {k : Nat} (hk : ∀ x, (enc x).length = k) : ∀ (l : List α) (q : Nat) (y : Value), (l.map enc).flatten[q]? = some y → ∃ i x j, l[i]? = some x ∧ (enc x)[j]? = some y ∧ q = i * k + j
 | [], q, y, h => by simp at h
 | z :: l, q, y, h => by
  simp only [aN, bP] at h
  by_cases b : q < k
  ·rw [List.getElem?_append_left (by rw [hk]; exact b)] at h
   exact ⟨0, z, q, rfl, h, by simp⟩
  ·rw [dC (by rw [hk]; omega), hk] at h
   obtain ⟨i, x, j, h1, a, c⟩ := wM hk l (q - k) y h
   exact ⟨i + 1, x, j, by simpa using h1, a, by rw [aZ]; omega⟩
theorem gI.nil {α : Type} (e : TypeId) (enc : α → List Value) (k : Nat) : gI e enc k (.slice none 0 0) [] [] := .inl ⟨rfl, rfl, rfl⟩
theorem gI.sl {α : Type} {e : TypeId} {enc : α → List Value} {k : Nat} {v : Value} {l : List α} {R : List (Nat × Obj)} {m : gT} (h : gI e enc k v l R) (hk : ∀ x, (enc x).length = k) (hm : ∀ b o, (b, o) ∈ R → m b = some o) : Sl (Pl enc) k m v l := by
 rcases h with ⟨rfl, rfl, rfl⟩ | ⟨g, cap, a, rfl, rfl, h1, d, r, n⟩
 ·exact Sl.nil _ _ _
 ·refine ⟨_, cap, rfl, h1, d, fun _ => ⟨g, 0, a, e, (0, 0), rfl, hm _ _ (by simp), fun i x p => ⟨enc x, hk x, rfl, fun j y q => ?_⟩⟩⟩
  have := qQ hk l i x p j y q
  rw [← n] at this
  have c : i * k + j < l.length * k := by
   have := (aC.1 this).1
   simp at this; omega
  rw [cw c] at this
  simpa using this
theorem gI.len {α : Type} {e : TypeId} {enc : α → List Value} {k : Nat} {v : Value} {l : List α} {R : List (Nat × Obj)} (h : gI e enc k v l R) : l.length ≤ 9223372036854775807 := by
 rcases h with ⟨rfl, rfl, rfl⟩ | ⟨g, cap, a, rfl, rfl, h1, b, c, d⟩
 ·simp
 ·unfold maxLen at b; omega
theorem gI.fr {α : Type} {e : TypeId} {enc : α → List Value} {k : Nat} {v : Value} {l : List α} {R X Y : List (Nat × Obj)} (h : gI e enc k v l R) (a : ST dd gN w W μ (X ++ (R ++ Y))) : Fr w.heap.size v := by
 rcases h with ⟨rfl, rfl, rfl⟩ | ⟨g, cap, d, rfl, rfl, h1, i, j, m⟩
 ·exact Fr.nil _
 ·intro b c
  simp [Value.ownBlock] at c
  subst c
  rcases (a.box g _ (by simp; exact .inr (.inl rfl))).2.2 with h | h
  ·exact h
  ·exact h.elim
theorem gI.lit {α : Type} {e : TypeId} {enc : α → List Value} {k b m : Nat} {l : List α} {cs : Array Value} (hm : l.length = m) (c : m ≤ maxLen) (d : cs.toList = (l.map enc).flatten) (a : cs.size = m * k) : gI e enc k (.slice (some ⟨b, 0, none⟩) m m) l [(b, .cells cs e (0, 0))] := by
 subst hm
 refine .inr ⟨b, _, cs, rfl, rfl, aJ _, c, a, ?_⟩
 rw [← d, ← a]
 exact bR (by rw [cn]; exact aJ _)
def jh {α : Type} (a : Nat) (l m : List α) : Option (List α) := if (l.length + m.length) * a ≤ 140737488355328 ∧ l.length + m.length ≤ maxLen then some (l ++ m) else none
theorem wL {K : Value → World → Prop} {α : Type} {e t : TypeId} {enc : α → List Value} {k ao : Nat} {z v vs : Value} {l m r : List α} {R : List (Nat × Obj)} (X : List (Nat × Obj)) {Y : List (Nat × Obj)} {x y : Operand} {i : TypeInfo} (p : ST dd F w W μ (X ++ (R ++ Y))) (hk : ∀ x, (enc x).length = k) (c5 : 0 < k) (h1 : ∀ x, ∀ u ∈ enc x, u.oneCell' = true) (ht : P.underlying t = some (.slice e)) (hi : P.info? e = some i) (hz : i.zero = some z) (c9 : z.cells.size = k) (c6 : i.size = k) (c3 : i.bytes = ao) (hx : gv E x = v) (hy : gv E y = vs) (hR : gI e enc k v l R) (hs : Sl (Pl enc) k (hp W) vs m) (n : jh ao l m = some r) (h : ∀ W' v' R', ST dd F w W' μ (X ++ (R' ++ Y)) → gI e enc k v' r R' → K v' W') : jx P E ⟨d, .call ⟨.builtin .append, #[x, y], #[t, t]⟩, ty, pos, af, g⟩ W K := by
 unfold jh at n
 split at n
 case isFalse => cases n
 rename_i b2
 cases n
 have ab : ∀ (V : Value) (W' : World), (Builtin.append_ #[t, t] ty #[v, vs]).run P W = .ok V W' → (execOp (gv E) ⟨d, .call ⟨.builtin .append, #[x, y], #[t, t]⟩, ty, pos, af, g⟩).run P W = .ok (.value V) W' := by
  intro V W' hV
  show (do let d ← resolve (gv E) ⟨.builtin .append, #[x, y], #[t, t]⟩ ty; invoke d.target d.args : Sem Next).run P W = _
  simp [resolve, invoke, builtin, hx, hy, hV]
 obtain ⟨A, c, rfl, cf, cp, c4⟩ := hs
 have a8 : W.ownsRow 0 e k v l.length (l.map enc).flatten := by
  refine ⟨lC hk l, ?_⟩
  rcases hR with ⟨rfl, rfl, rfl⟩ | ⟨g, cap, J, rfl, rfl, h1, h2, h3, h4⟩
  ·exact .inl ⟨rfl, rfl⟩
  ·exact .inr ⟨g, cap, J, rfl, eC _, (p.box g _ (by simp)).1, h1, h2, h3, h4⟩
 have ba : m.length = 0 ∨ ∃ ad, A = some ad ∧ ∀ j u, (m.map enc).flatten[j]? = some u → W.cell? (ad.add j) = some u := by
  rcases cy m.length with O | O
  ·exact .inl O
  ·obtain ⟨b, off, cs, T, fr, rfl, h6, h7⟩ := c4 O
   refine .inr ⟨⟨b, off, none⟩, rfl, fun j u hu => ?_⟩
   obtain ⟨i, x, q, h8, h9, rfl⟩ := wM hk m j u hu
   obtain ⟨ys, _, bc, bh⟩ := h7 i x h8
   cases bc
   rw [cg, eb W b (off + (i * k + q)) cs T fr h6, ← dh]
   exact bh q u h9
 have b9 : ∀ u ∈ (m.map enc).flatten, u.oneCell' = true := by
  intro u hu
  obtain ⟨ys, c8, c7⟩ := fO.1 hu
  obtain ⟨x, _, rfl⟩ := aK.1 c8
  exact h1 x u c7
 by_cases b6 : m.length = 0
 ·have hm : m = [] := cq b6
  subst hm
  have hr : (Builtin.append_ #[t, t] ty #[v, .slice A 0 c]).run P W = .ok v W := by
   rcases a8.2 with ⟨rfl, O⟩ | ⟨g, cap, J, rfl, _, hg, b7, _, cS, _⟩
   ·cases A with
    | none => simp [Builtin.append_, aq ht, sizeOf, typeInfo, hi, Builtin.lenOf, Builtin.firstCells]
    | some ad => simp [Builtin.append_, aq ht, sizeOf, typeInfo, hi, Builtin.lenOf, Builtin.firstCells, loadCells, loadCellsFrom]
   ·cases A with
    | none => simp [Builtin.append_, aq ht, sizeOf, typeInfo, hi, Builtin.lenOf, Builtin.firstCells, b7, storeCells]
    | some ad => simp [Builtin.append_, aq ht, sizeOf, typeInfo, hi, Builtin.lenOf, Builtin.firstCells, loadCells, loadCellsFrom, b7, storeCells]
  exact .inl ⟨v, W, ab _ _ (by simpa using hr), by simpa using h W v R p (by simpa using hR)⟩
 rcases ba with O | ⟨ad, rfl, a1⟩
 ·exact absurd O b6
 obtain ⟨v', W', hr, b0, s, cb, M⟩ := run_append_own_at (P := P) W 0 t ty e i z k ao ht hi hz c6 c3 c9 c5 v l.length (l.map enc).flatten a8 ad m.length c (m.map enc).flatten (lC hk m) a1 b9 b2.2 b2.1 (eC _)
 have av := ku _ _ _ _ hr
 refine .inl ⟨v', W', ab _ _ hr, ?_⟩
 have hlen : (l ++ m).length = l.length + m.length := by simp
 rcases b0.2 with ⟨_, O⟩ | ⟨g', a6, a7, rfl, _, aE, ca, b3, b4, bb⟩
 ·omega
 have b1 : gI e enc k (.slice (some ⟨g', 0, none⟩) (l.length + m.length) a6) (l ++ m) [(g', .cells a7 e (0, 0))] :=
  .inr ⟨g', a6, a7, by rw [hlen], rfl, by omega, b3, b4, by rw [hlen, bb]; simp⟩
 refine h W' _ _ ?_ b1
 have b8 := p.nd
 rcases hR with ⟨rfl, rfl, rfl⟩ | ⟨g, cap, J, rfl, rfl, q1, q2, q3, q4⟩
 ·-- nil: a new block
  have U : W.heap.size ≤ g' := by
   rcases M with h | h <;> simp [Value.ownBlock] at h
   omega
  have hex : Ex dd W W' := ⟨s.os, s.tape, s.output, np.of av, s.size, fun b n => s.block b n (by simp [Value.ownBlock])⟩
  have h1 := p.Bz hex
  refine ⟨h1.os, h1.tape, h1.output, h1.drawn, h1.size, h1.iM, h1.mem, fun b o n => ?_, ?_⟩
  ·simp only [aI, aA] at n
   rcases n with n | n | n
   ·exact h1.box b o (by simp [n])
   ·cases n
    refine ⟨aE, ?_, .inl (bk p.size U)⟩
    cases hm : μ g' with
    | none => rfl
    | some x => have := p.vH hm; omega
   ·exact h1.box b o (by simp [n])
  ·simp only [bw, aP, aN, dx] at b8 ⊢
   refine (dR cJ).2 (bV.2 ⟨fun hm => ?_, b8⟩)
   rw [← aP] at hm
   obtain ⟨⟨b, o⟩, n, L⟩ := aK.1 hm
   have c0 : (b, o) ∈ X ++ ([] ++ Y) := by simpa using n
   have := p.xg c0
   simp at L
   omega
 ·by_cases b5 : g' = g
  ·subst b5
   have O : ST dd F w W μ (X ++ (g', Obj.cells J e (0, 0)) :: Y) := by simpa using p
   have hold : ∀ b, b < W.heap.size → b ≠ g' → W'.heap[b]? = W.heap[b]? := fun b n I => s.block b n (by simp [Value.ownBlock]; exact I)
   have G := O.nd
   simp only [aP, aN] at G
   have I : ∀ b o, (b, o) ∈ X ++ Y → b ≠ g' := fun b o n L => by
    subst L
    rcases aI.1 n with n | n
    ·exact (aF.1 G).2.2 b (aK.2 ⟨_, n, rfl⟩) b (by simp) rfl
    ·exact (bV.1 (aF.1 G).2.1).1 (aK.2 ⟨_, n, rfl⟩)
   have Q := O.box g' (Obj.cells J e (0, 0)) (by simp)
   refine ⟨s.os.trans p.os, s.tape.trans p.tape, s.output.trans p.output, np.trans p.drawn (np.of av), bk p.size s.size, fun b n hF => ?_, fun b o n => ?_, fun b o n => ?_, by simpa using G⟩
   ·rw [hold b (cI n p.size) (fun L => by subst L; rcases Q.2.2 with h | h; omega; exact hF h)]
    exact p.iM b n hF
   ·rw [hold b (p.vH n) (fun L => by subst L; rw [Q.2.1] at n; cases n)]
    exact p.mem b o n
   ·simp only [aI, aA] at n
    rcases n with n | n | n
    ·obtain ⟨Z, r2⟩ := p.box b o (by simp [n])
     exact ⟨by rw [hold b (kf Z) (I b o (by simp [n]))]; exact Z, r2⟩
    ·cases n; exact ⟨aE, Q.2⟩
    ·obtain ⟨Z, r2⟩ := p.box b o (by simp [n])
     exact ⟨by rw [hold b (kf Z) (I b o (by simp [n]))]; exact Z, r2⟩
  ·have U : W.heap.size ≤ g' := by
    rcases M with h | h <;> simp [Value.ownBlock] at h
    ·exact absurd h b5
    ·omega
   have O : ST dd F w W μ (X ++ (g, Obj.cells J e (0, 0)) :: Y) := by simpa using p
   have Q := O.box g (Obj.cells J e (0, 0)) (by simp)
   have G := O.nd
   simp only [aP, aN] at G
   have I : ∀ b o, (b, o) ∈ X ++ Y → b ≠ g := fun b o n L => by
    subst L
    rcases aI.1 n with n | n
    ·exact (aF.1 G).2.2 b (aK.2 ⟨_, n, rfl⟩) b (by simp) rfl
    ·exact (bV.1 (aF.1 G).2.1).1 (aK.2 ⟨_, n, rfl⟩)
   have hold : ∀ b, b < W.heap.size → b ≠ g → W'.heap[b]? = W.heap[b]? := fun b n I => s.block b n (by simp [Value.ownBlock]; exact I)
   refine ⟨s.os.trans p.os, s.tape.trans p.tape, s.output.trans p.output, np.trans p.drawn (np.of av), bk p.size s.size, fun b n hF => ?_, fun b o n => ?_, fun b o n => ?_, ?_⟩
   ·rw [hold b (cI n p.size) (fun L => by subst L; rcases Q.2.2 with h | h; omega; exact hF h)]
    exact p.iM b n hF
   ·rw [hold b (p.vH n) (fun L => by subst L; rw [Q.2.1] at n; cases n)]
    exact p.mem b o n
   ·simp only [aI, aA] at n
    rcases n with n | n | n
    ·obtain ⟨Z, r2⟩ := p.box b o (by simp [n])
     exact ⟨by rw [hold b (kf Z) (I b o (by simp [n]))]; exact Z, r2⟩
    ·cases n
     refine ⟨aE, ?_, .inl (bk p.size U)⟩
     cases hm : μ g' with
     | none => rfl
     | some x => have := p.vH hm; omega
    ·obtain ⟨Z, r2⟩ := p.box b o (by simp [n])
     exact ⟨by rw [hold b (kf Z) (I b o (by simp [n]))]; exact Z, r2⟩
   ·have bs : (X.map (·.1) ++ Y.map (·.1)).Nodup := (bV.1 ((dR cJ).1 G)).2
    simp only [aP, aN, dx]
    refine (dR cJ).2 (bV.2 ⟨fun hm => ?_, bs⟩)
    rw [← aP] at hm
    obtain ⟨⟨b, o⟩, n, L⟩ := aK.1 hm
    have := p.xg (b := b) (o := o) (by rcases aI.1 n with h | h <;> simp [h])
    simp at L
    omega
end
end Go.Proofs.YtbnbdigcbldfhaaGreat
namespace Go.Proofs.YtbnbdigcbldfhaaGreat
open Go.RowKit
variable [M : Md]
def qX (l : List Value) : Nat → Value := fun t => l.getD t undef
def pd (P : Program) (fn : Func) (R : Ending → World → Prop) : km
 | .normal, E, W | .ret, E, W => ∃ v, (∀ tmps : Array Value, (∀ t, tmps.getD t undef = E t) → (results fn tmps).run P W = .ok v W) ∧ R (.returned v) W
 | _, _, _ => False
theorem ri {P : Program} {f : FuncId} {fn : Func} {c : Code} {args : List Value} {w : World} {R : Ending → World → Prop} {n : Nat} (o : P.funcs[f]? = some fn) (m : fn.body = some c) (q : fn.ntmps = n) (p : args.length ≤ n) (h : @CW rk P n c (pd P fn R) (qX args) w) : Calls P f args.toArray w R := by
 refine calls_of_wp o m ?_
 have i : @Ag rk n { tmps := args.toArray ++ Array.replicate (fn.ntmps - args.toArray.size) undef, defers := [] } (qX args) := by
  refine ⟨by simp; omega, rfl, fun t => ?_⟩
  simp only [qX, cA, List.getD_eq_getElem?_getD, eo, Array.getElem?_replicate, cr, dy]
  by_cases k : t < args.length
  ·rw [ar k]
  ·rw [al k, cE (by omega)]
   split <;> simp
 refine wp_mono ((wpIn_wide (n := 0)).1 (h _ i)) (fun e a r d => ?_)
 cases e with
 | normal =>
  obtain ⟨E, b, v, j, g⟩ := d
  exact ⟨b.2.1, v, j _ b.2.2, g⟩
 | ret =>
  obtain ⟨E, b, v, j, g⟩ := d
  exact ⟨b.2.1, v, j _ b.2.2, g⟩
 | exit id => obtain ⟨E, b, h⟩ := d; exact h.elim
 | goto l => obtain ⟨E, b, h⟩ := d; exact h.elim
 | panic c => exact d.2.elim
 | outgrown => exact d.elim
section
variable {P : Program} {fn : Func} {R : Ending → World → Prop} {E : Nat → Value} {W : World}
theorem ij {r : Tmp} {v : Value} (a : fn.results = #[.tmp r]) (c : E r = v) (h : R (.returned v) W) : pd P fn R .ret E W :=
 ⟨v, fun tmps b => by rw [results_tmp a, b, c], h⟩
theorem Cd {r s : Tmp} {v u : Value} (b : fn.results = #[.tmp r, .tmp s]) (c : E r = v) (hu : E s = u) (h : R (.returned (.tuple #[v, u])) W) : pd P fn R .ret E W :=
 ⟨.tuple #[v, u], fun tmps a => by rw [results_tmp2 b, a, a, c, hu], h⟩
theorem nt (a : fn.results = #[]) (h : R (.returned (.tuple #[])) W) : pd P fn R .ret E W :=
 ⟨.tuple #[], fun tmps _ => by rw [results_none a], h⟩
theorem oV (h : pd P fn R .ret E W) : pd P fn R .normal E W := h
end
section
variable {Q : km} {E : Nat → Value} {W : World} {K : (Nat → Value) → World → Prop} {id j : Nat}
theorem gU (h : Q .normal E W) : pu id Q .normal E W := h
theorem jU (h : Q .ret E W) : pu id Q .ret E W := h
theorem sv (h : Q .normal E W) : pu id Q (.exit id) E W := by simp [pu]; exact h
theorem gC (h : K E W) : kZ K Q .normal E W := h
theorem iv (h : Q .ret E W) : kZ K Q .ret E W := h
theorem nB (h : Q (.exit j) E W) : kZ K Q (.exit j) E W := h
end
theorem BY {i N : Nat} (b : i < N) (a : N ≤ 9223372036854775807) : IntKind.i64.wrap ((i : Int) + 1) = ((i + 1 : Nat) : Int) := by
 rw [IntWalk.i64_in _ (by omega)]
 omega
theorem im {P : Program} {n : Nat} {Q : km} {E : Nat → Value} {W : World} {g r Y Z o p A t : Nat} {t1 t2 t3 t4 t5 t6 t7 : TypeId} {R T U : String} {f1 f2 f3 : Array Edge} {body : Code} (I : Nat → (Nat → Value) → World → Prop) (N : Nat) (L : N ≤ 9223372036854775807) (G : I 0 E W) (M : o < n) (O : t < n) (y : p < n) (K : ∀ i E W, I i E W → E p = .int .i64 (i : Nat) ∧ E A = .int .i64 (N : Nat)) (round : ∀ i E W, i < N → I i E W → CW P n (.block r body) (kZ (fun E' W' => E' p = .int .i64 (i : Nat) ∧ I (i + 1) (jC (jC E' t (.int .i64 ((i + 1 : Nat) : Int))) p (.int .i64 ((i + 1 : Nat) : Int))) W') (pu g Q)) (jC E o (.bool true)) W) (done : ∀ E W, I N E W → Q .normal (jC E o (.bool false)) W) :
  CW P n (.block g (.loop (.seq (.region Y #[⟨some o, .binOp .lss t1 (.tmp p) (.tmp A) t2, t3, R, f1, none⟩] false)
   (.seq (.cond (.tmp o) .skip (.exit g)) (.seq (.block r body)
    (.region Z #[⟨some t, .binOp .add t4 (.tmp p) (.const (.int .i64 1)) t5, t6, T, f2, none⟩, ⟨some p, .move (.tmp t), t7, U, f3, none⟩] false)))))) Q E W := by
 refine ji (lT (fun m E W => ∃ i, i ≤ N ∧ m = N - i ∧ I i E W) N ⟨0, eC _, by omega, G⟩ ?_)
 rintro m E W ⟨i, hi, rfl, d⟩
 obtain ⟨u, w⟩ := K i E W d
 refine gH (gE (yh (.inl rfl) rfl M (iX u w rfl) (gM ?_)))
 refine gC (gH ?_)
 have s : jC E o (.bool (decide ((i : Int) < (N : Int)))) o = .bool (decide ((i : Int) < (N : Int))) := by simp [jC]
 by_cases q : i < N
 ·have x : decide ((i : Int) < (N : Int)) = true := by simp; omega
  rw [x] at s ⊢
  refine qp s (ic (gC (gH ?_)))
  refine tK (round i E W q d) (fun e E' W' h => ?_)
  cases e with
  | normal =>
   obtain ⟨h1, J⟩ := h
   refine gC ?_
   have hw : IntKind.i64.wrap ((i : Int) + 1) = ((i + 1 : Nat) : Int) := BY q L
   refine gE (yh (v := .int .i64 ((i + 1 : Nat) : Int)) (.inl rfl) rfl O (iX (k := .i64) (a := (i : Int)) (b := 1) h1 rfl (by simp only [yX, hw])) ?_)
   refine yh (v := .int .i64 ((i + 1 : Nat) : Int)) (.inl rfl) rfl y (gy (by simp [gv, jC])) (gM ?_)
   exact gC ⟨N - (i + 1), by omega, i + 1, by omega, rfl, J⟩
  | exit j => exact h
  | goto l => exact h
  | ret => exact h
  | panic c => exact h
  | outgrown => exact h
 ·have x : decide ((i : Int) < (N : Int)) = false := by simp; omega
  rw [x] at s ⊢
  obtain rfl : i = N := by omega
  refine mw s (oy (nB (nB (sv ?_))))
  exact done E W d
theorem Ce {P : Program} {n : Nat} {x : Code} {Q : km} {K : (Nat → Value) → World → Prop} {E : Nat → Value} {W : World} (J : (Nat → Value) → World → Prop) (h : CW P n x (kZ J Q) E W) (k : ∀ E W, J E W → K E W) : CW P n x (kZ K Q) E W :=
 tK h (fun e E W h => by cases e <;> first | exact k E W h | exact h)
theorem Ev {α : Type} {c : Bool} {x y r : α} (a : c = true) (h : (if c = true then x else y) = r) : x = r := by rw [ar a] at h; exact h
theorem Ez {α : Type} {c : Bool} {x y r : α} (a : c = false) (h : (if c = true then x else y) = r) : y = r := by rw [al (by rw [a]; decide)] at h; exact h
theorem bind_some {α β : Type} {o : Option α} {f : α → Option β} {r : β} (h : o.bind f = some r) : ∃ y, o = some y ∧ f y = some r := by
 cases o with
 | none => cases h
 | some y => exact ⟨y, rfl, h⟩
theorem BG (b : Bool) : b = true ∨ b = false := by cases b <;> simp
theorem hX {α : Type} {l : List α} {i : Nat} (h : i < l.length) : ∃ x xs, l.drop i = x :: xs ∧ l[i]? = some x ∧ l.drop (i + 1) = xs := by
 cases a : l.drop i with
 | nil => have := aw List.length a; simp at this; omega
 | cons x xs => exact ⟨x, xs, rfl, by rw [← List.head?_drop, a]; rfl, by rw [← List.drop_drop, a]; rfl⟩
theorem qD {P : Program} {W : World} (d : Nat) (xs a : Array Value) : (Op.eqFields d xs a []).run P W = .ok true W := by simp [Op.eqFields]
theorem jt {P : Program} {W : World} {d : Nat} {xs c : Array Value} {f : Field} {fs : List Field} {a b : Value} {r s : Bool} (j : f.name ≠ "_") (g : (part f.type xs f.offset).run P W = .ok a W) (i : (part f.type c f.offset).run P W = .ok b W) (he : (Op.equalIn d f.type a b).run P W = .ok r W) (h : (Op.eqFields d xs c fs).run P W = .ok s W) : (Op.eqFields d xs c (f :: fs)).run P W = .ok (r && s) W := by
 simp only [Op.eqFields, ne_eq, j, not_false_eq_true, bi, aQ, g, i, he, aH]
 cases r <;> simp [h]
theorem nu {P : Program} {W : World} {t : TypeId} {k : Nat} {cs : Array Value} {off : Nat} {v : Array Value} (a : ∀ w, (isAgg t).run P w = .ok true w) (b : ∀ w, (sizeOf t).run P w = .ok k w) (c : cs.extract off (off + k) = v) : (part t cs off).run P W = .ok (.agg v) W := by
 simp [part, a W, b W, c]
theorem ju {P : Program} {W : World} {t : TypeId} {cs : Array Value} {off : Nat} {v : Value} (a : ∀ w, (isAgg t).run P w = .ok false w) (b : cs[off]? = some v) : (part t cs off).run P W = .ok v W := by
 simp [part, a W, b]
def gX (a b : ByteArray) : Bool := a.toList == b.toList
theorem CB {P : Program} {t : TypeId} (c : P.underlying t = some .string) (d : Nat) (a b : ByteArray) (W : World) : (Op.equalIn (d + 1) t (.string a) (.string b)).run P W = .ok (gX a b) W := run_equalIn_string W d t a b c
theorem DD {P : Program} {t : TypeId} {k : IntKind} (c : P.underlying t = some (.int k)) (d : Nat) (a b : Int) (W : World) : (Op.equalIn (d + 1) t (.int k a) (.int k b)).run P W = .ok (a == b) W := run_equalIn_int W d t k k a b c
theorem jw {P : Program} {op : BinOp} {t : TypeId} {x y : Operand} {a b : Array Value} (c : P.eqGuardType P.depth t = false) (W : World) : (eqGuard op t x y (.agg a) (.agg b)).run P W = .ok () W := by
 cases op <;> simp [eqGuard] <;> (intro h; rw [c] at h; cases h)
theorem lR {P : Program} {t : TypeId} {a b : Array Value} {r : Bool} (h : ∀ W, (Op.equalIn Op.maxDepth t (.agg a) (.agg b)).run P W = .ok r W) (W : World) : (binOp .eql t (.agg a) (.agg b)).run P W = .ok (.bool r) W := by
 simp [binOp, Op.equal, h W]
theorem vJ {P : Program} {t : TypeId} {a b : Array Value} {r : Bool} (h : ∀ W, (Op.equalIn Op.maxDepth t (.agg a) (.agg b)).run P W = .ok r W) (W : World) : (binOp .neq t (.agg a) (.agg b)).run P W = .ok (.bool !r) W := by
 simp [binOp, Op.equal, h W]
end Go.Proofs.YtbnbdigcbldfhaaGreat
namespace Go.Proofs.YtbnbdigcbldfhaaGreat
open Go.RowKit
variable [M : Md]
variable {dd : Bool}
def iV (k : IntKind) (x : Int) : List Value := [.int k x]
def iL (x : ByteArray) : List Value := [.string x]
theorem sG (k : IntKind) (x : Int) : ∀ u ∈ iV k x, u.oneCell' = true := by intro u hu; simp [iV] at hu; subst hu; rfl
theorem uk (x : ByteArray) : ∀ u ∈ iL x, u.oneCell' = true := by intro u hu; simp [iL] at hu; subst hu; rfl
def zS : ByteArray := ⟨#[]⟩
def kL (a b : ByteArray) : Bool := Op.bytesLess a.toList b.toList
@[irreducible] def jj : Nat := 18446744073709551616
theorem oZ : jj = 18446744073709551616 := by unfold jj; rfl
def jK {α : Type} (l : List α) (i : Int) : Option α := if 0 ≤ i then l[i.toNat]? else none
theorem iD {α : Type} {l : List α} {i : Int} {x : α} (h : jK l i = some x) : 0 ≤ i := by
 unfold jK at h; split at h
 ·assumption
 ·cases h
theorem hZ {α : Type} {l : List α} {i : Int} {x : α} (h : jK l i = some x) : l[i.toNat]? = some x := by
 unfold jK at h; split at h
 ·exact h
 ·cases h
theorem xQ {α : Type} (l : List α) (i : Nat) : jK l (i : Int) = l[i]? := by simp [jK]
def rM (s : ByteArray) (i : Int) : Option UInt8 := if 0 ≤ i then s[i.toNat]? else none
theorem rh {s : ByteArray} {i : Int} {x : UInt8} (h : rM s i = some x) : 0 ≤ i := by
 unfold rM at h; split at h
 ·assumption
 ·cases h
theorem uc {s : ByteArray} {i : Int} {x : UInt8} (h : rM s i = some x) : s[i.toNat]? = some x := by
 unfold rM at h; split at h
 ·exact h
 ·cases h
section
variable {F : Nat → Prop} {w W : World} {μ : gT} {L L' : List (Nat × Obj)} {α : Type} {e : TypeId} {enc : α → List Value} {k : Nat} {v : Value} {l : List α} {R : List (Nat × Obj)}
theorem ST.at_ (h : ST dd F w W μ L) {b : Nat} {o : Obj} (a : (b, o) ∈ L) : hp W b = some o := (h.box b o a).1
theorem gI.FZ (h : gI e enc k v l R) (hk : ∀ x, (enc x).length = k) (a : ST dd F w W μ L) (b : ∀ p, p ∈ R → p ∈ L) : Sl (Pl enc) k (hp W) v l :=
 h.sl hk (fun _ _ c => a.at_ (b _ c))
theorem gI.form (h : gI e enc k v l R) : ∃ A c, v = .slice A l.length c := by
 rcases h with ⟨rfl, rfl, rfl⟩ | ⟨g, cap, a, rfl, rfl, h1, b, d, i⟩
 ·exact ⟨_, _, rfl⟩
 ·exact ⟨_, _, rfl⟩
theorem Sl.form {R : pJ α} (h : Sl R k μ v l) : ∃ A c, v = .slice A l.length c := let ⟨A, c, h, _⟩ := h; ⟨A, c, h⟩
theorem gI.ES (h : gI e enc k v l R) (c : ST dd gN w W μ L) (i : ∀ p, p ∈ R → p ∈ L) : Fr w.heap.size v := by
 rcases h with ⟨rfl, rfl, rfl⟩ | ⟨g, cap, a, rfl, rfl, h1, j, m, n⟩
 ·exact Fr.nil _
 ·intro b d
  simp [Value.ownBlock] at d
  subst d
  rcases (c.box g (.cells a e (0, 0)) (i _ (aA.2 rfl))).2.2 with h | h
  ·exact h
  ·exact h.elim
theorem Sl.lit {b m : Nat} {cs : Array Value} (hk : ∀ x, (enc x).length = k) (hm : l.length = m) (c : m ≤ maxLen) (a : cs.toList = (l.map enc).flatten) (d : μ b = some (.cells cs e (0, 0))) : Sl (Pl enc) k μ (.slice (some ⟨b, 0, none⟩) m m) l :=
 (gI.lit (e := e) (b := b) hm c a (by have := aw List.length a; rw [lC hk, cn, hm] at this; exact this)).sl hk (fun g o h => by simp at h; obtain ⟨rfl, rfl⟩ := h; exact d)
theorem Fr.box (h : ST dd gN w W μ L) {b m c : Nat} {o : Obj} (d : (b, o) ∈ L) : Fr w.heap.size (.slice (some ⟨b, 0, none⟩) m c) := by
 intro g a
 simp [Value.ownBlock] at a
 subst a
 rcases (h.box b o d).2.2 with h | h
 ·exact h
 ·exact h.elim
theorem ST.perm (h : ST dd F w W μ L) (hp : L.Perm L') : ST dd F w W μ L' :=
 ⟨h.os, h.tape, h.output, h.drawn, h.size, h.iM, h.mem, fun b o a => h.box b o (hp.mem_iff.2 a), (hp.map _).nodup_iff.1 h.nd⟩
theorem ST.sublist (h : ST dd F w W μ L) (a : L'.Sublist L) : ST dd F w W μ L' :=
 ⟨h.os, h.tape, h.output, h.drawn, h.size, h.iM, h.mem, fun b o c => h.box b o (a.subset c), h.nd.sublist (a.map _)⟩
end
section
variable {E : Nat → Value} {x1 x2 x3 x4 x5 x6 : Operand} {v1 v2 v3 v4 v5 v6 : Value}
theorem ur (h1 : gv E x1 = v1) : #[x1].map (gv E) ++ (#[] : Array Value) = [v1].toArray := by simp [h1]
theorem sb (h1 : gv E x1 = v1) (a : gv E x2 = v2) : #[x1, x2].map (gv E) ++ (#[] : Array Value) = [v1, v2].toArray := by simp [h1, a]
theorem Fq (h1 : gv E x1 = v1) (a : gv E x2 = v2) (b : gv E x3 = v3) : #[x1, x2, x3].map (gv E) ++ (#[] : Array Value) = [v1, v2, v3].toArray := by simp [h1, a, b]
end
theorem yy : ∀ (v : List Value) (i off : Nat) (cells : Array Value), off + i + v.length ≤ cells.size →
  (v.zipIdx i).foldl (fun cs (c, j) => cs.setIfInBounds (off + j) c) cells = (cells.toList.take (off + i) ++ v ++ cells.toList.drop (off + i + v.length)).toArray
 | [], i, off, cells, h => by simp
 | c :: v, i, off, cells, h => by
  simp only [List.zipIdx_cons, cZ]
  simp only [aB] at h
  rw [yy v (i + 1) off _ (by simp; omega)]
  have d : off + i < cells.toList.length := by simp; omega
  congr 1
  rw [Array.toList_setIfInBounds]
  apply cC
  intro j
  have g : (cells.toList.take (off + i)).length = off + i := by simp; omega
  by_cases h1 : j < off + i
  ·simp only [dB, an, bO, eE, cn, aB, cK, da, cj]
   rw [show min (off + (i + 1)) cells.size = off + (i + 1) by omega, show min (off + i) cells.size = off + i by omega]
   rw [ar (by omega), ar (by omega), ar (by omega), al (by omega), ar (by omega), ar (by omega), ar (by omega)]
  ·by_cases b : j = off + i
   ·subst b
    simp [dB, cK, da, show off + i < off + (i + 1) by omega]
    rw [ar (by omega), ar (by omega), al (by omega), show off + i - min (off + i) cells.size = 0 by omega]
    rfl
   ·simp only [dB, an, bO, eE, cn, aB, cK, da, cj]
    rw [show min (off + (i + 1)) cells.size = off + (i + 1) by omega, show min (off + i) cells.size = off + i by omega]
    by_cases a : j < off + (i + 1) + v.length
    ·rw [ar a, al (by omega), ar (by omega), al (by omega)]
     rw [show j - (off + i) = (j - (off + (i + 1))) + 1 by omega]
     simp
    ·rw [al a, al (by omega), al (by omega)]
     congr 1
     omega
theorem zD {k : Nat} : ∀ (vs : List Value) (i : Nat) (pre rest : List Value), (∀ v ∈ vs, v.cells.size = k) → pre.length = i * k → rest.length = vs.length * k →
  Instr.fill (fun i => some (i * k, k)) (pre ++ rest).toArray ((vs.zipIdx i).map (fun p => (p.2, p.1))) = some (pre ++ vs.flatMap (fun v => v.cells.toList)).toArray
 | [], i, pre, rest, d, hp, b => by
  have : rest = [] := by cases rest <;> simp at b ⊢
  simp [Instr.fill, this]
 | v :: vs, i, pre, rest, d, hp, b => by
  have a := d v (by simp)
  have g : v.cells.zipIdx.foldl (fun cs (c, j) => cs.setIfInBounds (i * k + j) c) (pre ++ rest).toArray = (pre ++ v.cells.toList ++ rest.drop k).toArray := by
   have := yy v.cells.toList 0 (i * k) (pre ++ rest).toArray (by simp [hp, b, a, aZ])
   rw [← Array.toList_zipIdx, Array.foldl_toList] at this
   rw [this]
   congr 1
   simp [← hp, a]
  simp only [List.zipIdx_cons, aN, Instr.fill]
  rw [al (by simp [a, hp, b, aZ]), g]
  have := zD vs (i + 1) (pre ++ v.cells.toList) (rest.drop k) (fun u hu => d u (by simp [hu])) (by simp [hp, a, aZ]) (by simp [b, aZ])
  rw [this]
  simp
theorem CY {k m : Nat} {a cs : Array Value} {qs : Array (Nat × Value)} (vs : List Value) (c : qs.toList = vs.zipIdx.map (fun p => (p.2, p.1))) (g : ∀ v ∈ vs, v.cells.size = k) (hm : vs.length = m) (d : a.size = m * k) (b : (vs.flatMap (fun v => v.cells.toList)).toArray = cs) : Instr.fill (fun i => some (i * k, k)) a qs.toList = some cs := by
 subst hm b
 rw [c]
 have := zD vs 0 [] a.toList g (by simp) (by simpa using d)
 simpa using this
theorem vS {P : Program} {t e : TypeId} {m k : Nat} {z : Value} {qs : Array (Nat × Value)} {cs : Array Value} (vs : List Value) (g : P.underlying t = some (.slice e)) (d : ∀ w, (sizeOf e).run P w = .ok k w) (i : ∀ w, (zeroValue e).run P w = .ok z w) (hm : m * k ≤ 16777216) (c : qs.toList = vs.zipIdx.map (fun p => (p.2, p.1))) (h : ∀ v ∈ vs, v.cells.size = k) (b : vs.length = m) (a : (vs.flatMap (fun v => v.cells.toList)).toArray = cs) (W : World) :
  (Instr.buildSlice t m qs).run P W = .ok (.slice (some ⟨W.heap.size, 0, none⟩) m m) (W.alloc (.cells cs e (0, 0))) :=
 xL g d i hm (CY vs c h b (by simp) a) W
theorem vm {E : Nat → Value}  : (#[] : Array (Nat × Operand)).map (fun (i, x) => (i, gv E x)) = #[] := by simp
theorem kk {E : Nat → Value} {x0 : Operand} {v0 : Value} {i0 : Nat} (a : gv E x0 = v0) : (#[(i0, x0)] : Array (Nat × Operand)).map (fun (i, x) => (i, gv E x)) = #[(i0, v0)] := by simp [a]
theorem mB {E : Nat → Value} {x0 x1 : Operand} {v0 v1 : Value} {i0 i1 : Nat} (a : gv E x0 = v0) (h1 : gv E x1 = v1) : (#[(i0, x0), (i1, x1)] : Array (Nat × Operand)).map (fun (i, x) => (i, gv E x)) = #[(i0, v0), (i1, v1)] := by simp [a, h1]
theorem xF {E : Nat → Value} {x0 x1 x2 : Operand} {v0 v1 v2 : Value} {i0 i1 i2 : Nat} (a : gv E x0 = v0) (h1 : gv E x1 = v1) (b : gv E x2 = v2) : (#[(i0, x0), (i1, x1), (i2, x2)] : Array (Nat × Operand)).map (fun (i, x) => (i, gv E x)) = #[(i0, v0), (i1, v1), (i2, v2)] := by simp [a, h1, b]
theorem zi {E : Nat → Value} {x0 x1 x2 x3 : Operand} {v0 v1 v2 v3 : Value} {i0 i1 i2 i3 : Nat} (a : gv E x0 = v0) (h1 : gv E x1 = v1) (b : gv E x2 = v2) (c : gv E x3 = v3) : (#[(i0, x0), (i1, x1), (i2, x2), (i3, x3)] : Array (Nat × Operand)).map (fun (i, x) => (i, gv E x)) = #[(i0, v0), (i1, v1), (i2, v2), (i3, v3)] := by simp [a, h1, b, c]
theorem jc {P : Program} {t : TypeId} {f off : Nat} {fs : Array Field} {fd : Field} (g : P.underlying t = some (.struct fs)) (a : fs[f]? = some fd) {k : Nat} (d : ∀ w, (sizeOf fd.type).run P w = .ok k w) (hk : k ≠ 0) (c : fd.offset = off) : jD P t f off := by
 intro b o w
 subst c
 simp [Instr.fieldAt, aq g, a, Instr.sureAddr, fieldPlace, cg, d w, hk]
theorem Ag.xk {n : Nat} {a : Act} {E : Nat → Value} (h : Ag n a E) {ops : Array Oper} {j t : Nat} (c : (ops[j]?).bind (·.dst) = some t) (g : t < n) (i : E t = undef) : yielded ops a.tmps j = none := by
 have b := h.2.2 t
 have d : a.tmps[t]? = some (E t) := by
  rw [← b]
  simp [cA, h.1, g]
 simp [yielded, c, d, i, undef]
theorem EA {P : Program} {n : Nat} {Q : km} {E : Nat → Value} {W : World} {ops : Array Oper} {rest : List Oper} {o : Oper} {d j t : Nat} {want : Bool} (g : o.dst = some d) (l : d < n) (i : o.guard = some (j, want)) (k : (ops[j]?).bind (·.dst) = some t) (m : t < n) (c : E t = undef) (h : LW P n ops Q rest (jC E d undef) W) : LW P n ops Q (o :: rest) E W := fun a b => by
 unfold wpListIn
 have p := b.xk k m c
 rw [al (by simp [Region.wanted, i, p])]
 rw [g]
 exact ⟨fun _ _ => trivial, h _ (b.put l _)⟩
theorem Fh {P : Program} {n : Nat} {Q : km} {E : Nat → Value} {W : World} {ops : Array Oper} {rest : List Oper} {A : Value → Prop} {o : Oper} {dd : Nat} (hw : mA n ops E o) (b : o.dst = some dd) (c : dd < n) (d : ∃ p, A p ∧ ∀ W, iB P E o W p W) (h : ∀ p, A p → LW P n ops Q rest (jC E dd p) W) : LW P n ops Q (o :: rest) E W := by
 obtain ⟨p, h1, a⟩ := d
 exact yh hw b c (a W) (h p h1)
end Go.Proofs.YtbnbdigcbldfhaaGreat
namespace Go.Proofs.YtbnbdigcbldfhaaGreat
open Go.RowKit
variable [M : Md]
variable {dd : Bool}
theorem nH {P : Program} {n : Nat} {x : Code} {Q : km} {E : Nat → Value} {W : World} (h : CW P n x (kZ (fun E W => Q .normal E W) Q) E W) : CW P n x Q E W :=
 tK h (fun e E W h => by cases e <;> exact h)
section
variable {P : Program} {n : Nat} {Q : km} {E : Nat → Value} {W : World} {d : Option Nat} {ty : TypeId} {pos : String} {af : Array Edge} {g : Option (Nat × Bool)}
 {F : Nat → Prop} {w : World} {μ : gT} {L : List (Nat × Obj)}
def DI (k : IntKind) (op : BinOp) (a b : Int) : Option Value :=
 match op with
 | .quo => some (.int k (k.wrap (a.tdiv b)))
 | .rem => some (.int k (a.tmod b))
 | .and => some (.int k (k.wrap (BitVec.ofInt k.bits a &&& BitVec.ofInt k.bits b).toNat))
 | .or => some (.int k (k.wrap (BitVec.ofInt k.bits a ||| BitVec.ofInt k.bits b).toNat))
 | _ => none
theorem BK {op : BinOp} {c m : TypeId} {x y : Operand} {k : IntKind} {a b : Int} {v : Value} (j : gv E x = .int k a) (l : gv E y = .int k b) (i : b ≠ 0) (h : DI k op a b = some v) :
  iB P E ⟨d, .binOp op c x y m, ty, pos, af, g⟩ W v W := by
 show (do let r ← (do eqGuard op c x y (gv E x) (gv E y); binOp op c (gv E x) (gv E y)); pure (.value r) : Sem Next).run P W = _
 rw [j, l]
 cases op <;> simp [DI] at h <;> subst h <;> simp [eqGuard, binOp, Op.intDiv, Op.intBits, i]
theorem Fz {c j : TypeId} {x y : Operand} {k k' : IntKind} {a b : Int} (h : gv E x = .int k a) (i : gv E y = .int k' b) (l : 0 ≤ b) :
  iB P E ⟨d, .binOp .shr c x y j, ty, pos, af, g⟩ W (.int k (a.fdiv (2 ^ min b.toNat k.bits))) W := by
 show (do let r ← (do eqGuard .shr c x y (gv E x) (gv E y); binOp .shr c (gv E x) (gv E y)); pure (.value r) : Sem Next).run P W = _
 rw [h, i]
 simp [eqGuard, binOp, Op.shift, show ¬ b < 0 by omega]
theorem tb {s t : TypeId} {x : Operand} {k k' : IntKind} {a : Int} {u : TypeDesc} (b : P.underlying s = some u) (c : P.underlying t = some (.int k)) (h : gv E x = .int k' a) :
  iB P E ⟨d, .convert s t x, ty, pos, af, g⟩ W (.int k (k.wrap a)) W := by
 show (do pure (.value (← convert s t (gv E x))) : Sem Next).run P W = _
 rw [h]
 simp [convert, aq b, aq c, Conv.intToInt]
theorem xX {t e : TypeId} (dd : Nat) (a : P.underlying t = some (.slice e)) (A : Option Addr) (l c : Nat) (W : World) : (Op.equalIn (dd + 1) t (.slice A l c) (.slice none 0 0)).run P W = .ok A.isNone W := by
 cases A <;> simp [Op.equalIn, aq a]
theorem yp {a k e : TypeId} {x y : Operand} {A : Option Addr} {l c : Nat} (h : P.underlying a = some (.slice e)) (i : gv E x = .slice A l c) (j : gv E y = .slice none 0 0) :
  iB P E ⟨d, .binOp .eql a x y k, ty, pos, af, g⟩ W (.bool A.isNone) W := by
 show (do let r ← (do eqGuard .eql a x y (gv E x) (gv E y); binOp .eql a (gv E x) (gv E y)); pure (.value r) : Sem Next).run P W = _
 rw [i, j]
 have b := xX 9999 h A l c W
 simp [eqGuard, binOp, Op.equal, show Op.maxDepth = 9999 + 1 from rfl, b]
def mO (s : ByteArray) : List Int := s.data.toList.map (fun b => (b.toNat : Int))
def tQ (s : ByteArray) : Option (List Int) := if s.size ≤ maxLen then some (mO s) else none
theorem kO (s : ByteArray) : (mO s).length = s.size := by simp only [mO, bN, cn]; rfl
theorem Bt {s : ByteArray} {cap i : Nat} {x : Int} (h : (mO s)[i]? = some x) : (bytesRow s cap)[i]? = some (.int .u8 x) := by
 have d : i < s.size := by have := (aC.1 h).1; rwa [kO] at this
 have a : i < s.data.size := d
 simp [mO] at h
 obtain ⟨b, c, rfl⟩ := h
 rw [bytesRow, Array.getElem?_append_left (by simpa using a)]
 simp [c]
theorem yz {K : Value → World → Prop} {s t e : TypeId} {x : Operand} {str : ByteArray} {l : List Int} (c : ST dd F w W μ L) (p : P.underlying s = some .string) (o : P.underlying t = some (.slice e)) (he : P.underlying e = some (.int .u8)) (m : gv E x = .string str) (a : tQ str = some l) (h : ∀ W' v μ', ST dd F w W' μ' L → ig μ μ' → Lo F w μ μ' → Sl (Pl (iV .u8)) 1 μ' v l → Fr w.heap.size v → K v W') : jx P E ⟨d, .convert s t x, ty, pos, af, g⟩ W K := by
 unfold tQ at a
 split at a
 case isFalse => cases a
 rename_i hm
 cases a
 have k := run_bytes_of_string (P := P) W s t e str p o he
 have h1 := c.drew.alloc (.cells (bytesRow str (grownCap W str.size 0 e)) e ((bytesRow str (grownCap W str.size 0 e)).size, (bytesRow str (grownCap W str.size 0 e)).size + 1))
 refine .inl ⟨.slice (some ⟨W.heap.size, 0, none⟩) str.size (grownCap W str.size 0 e), _, ?_, h _ _ _ (ST.xT (A := []) h1) (ST.xR (A := []) h1) (ST.Ch (A := []) h1) ?_ ?_⟩
 ·show (do pure (.value (← convert s t (gv E x))) : Sem Next).run P W = _
  rw [m]
  simp only [aQ, k, aH, bA]
 ·refine ⟨_, grownCap W str.size 0 e, by rw [kO], by rw [kO]; exact grownCap_ge W str.size 0 e, grownCap_le_maxLen W str.size 0 e hm, fun _ => ⟨W.heap.size, 0, bytesRow str (grownCap W str.size 0 e), e, _, rfl, ar rfl, fun i x m => ⟨_, rfl, rfl, fun j y n => ?_⟩⟩⟩
  cases j with
  | zero => simp [iV] at n; subst n; simpa using Bt m
  | succ j => simp [iV] at n
 ·intro b a
  simp [Value.ownBlock] at a
  subst a
  exact c.size
def uQ (l : List Int) : ByteArray := l.foldl (fun r n => r.push (UInt8.ofNat n.toNat)) ByteArray.empty
theorem AL {s t e : TypeId} {x : Operand} {v : Value} {l : List Int} (y : P.underlying s = some (.slice e)) (he : P.underlying e = some (.int .u8)) (w : P.underlying t = some .string) (I : gv E x = v) (G : Sl (Pl (iV .u8)) 1 (hp W) v l) :
  iB P E ⟨d, .convert s t x, ty, pos, af, g⟩ W (.string (uQ l)) W := by
 show (do pure (.value (← convert s t (gv E x))) : Sem Next).run P W = _
 obtain ⟨A, c, rfl, J, K, p⟩ := G
 rw [I]
 simp only [aQ, run_convert_bytes_string W s t e A l.length c y he w]
 rcases cy l.length with h | h
 ·have : l = [] := bl.1 h
  subst this
  cases A with
  | none => simp [Conv.bytesToString, uQ]
  | some a =>
   have q := run_bytesToString (P := P) W a 0 c [] (by simpa using eQ (P := P) W a [] (by simp))
   simp only [bH]
   rw [q]
   simp [uQ]
 ·obtain ⟨b, off, cs, T, fr, rfl, r, u⟩ := p h
  have o := eQ (P := P) W ⟨b, off, none⟩ (l.map (Value.int .u8)) (fun j v n => by
   simp at n
   obtain ⟨x, k, rfl⟩ := n
   obtain ⟨L, _, m, i⟩ := u j x k
   cases m
   rw [cg, eb W b (off + j) cs T fr r]
   have := i 0 (.int .u8 x) rfl
   simpa using this)
  simp only [bN] at o
  rw [run_bytesToString W _ l.length c l o]
  simp [uQ]
end
end Go.Proofs.YtbnbdigcbldfhaaGreat
namespace Go.Proofs.YtbnbdigcbldfhaaGreat
open Go.RowKit
variable {dd : Bool}
def keys (L : List (Nat × Obj)) : Nat → Prop := fun b => ∃ o, (b, o) ∈ L
structure Ga (dd : Bool) (F : Nat → Prop) (w W : World) : Prop where
 os : W.os = w.os
 tape : W.tape = w.tape
 output : W.output = w.output
 drawn : np dd w.drawn W.drawn
 size : w.heap.size ≤ W.heap.size
 iM : ∀ b, b < w.heap.size → ¬ F b → W.heap[b]? = w.heap[b]?
def vd (L : List (Nat × Obj)) (W : World) : Prop := ∀ b o, (b, o) ∈ L → W.heap[b]? = some o
structure nD (dd : Bool) (L0 L1 : List (Nat × Obj)) (w w' : World) : Prop where
 ex : Ga dd (keys L0) w w'
 held : ∀ b o, (b, o) ∈ L1 → w'.heap[b]? = some o ∧ (w.heap.size ≤ b ∨ keys L0 b)
 nd : (L1.map (·.1)).Nodup
open Classical in
noncomputable def oW (w : World) (L : List (Nat × Obj)) : gT := fun b => if keys L b then none else w.heap[b]?
open Classical in
noncomputable def sK (μ : gT) (W W' : World) (L1 : List (Nat × Obj)) : gT := fun b => if b < W.heap.size then μ b else if keys L1 b then none else W'.heap[b]?
section
variable {F : Nat → Prop} {w W W' : World} {μ μ' : gT} {L L0 L1 : List (Nat × Obj)}
theorem ST.Cc (a : vd L0 w) (c : (L0.map (·.1)).Nodup) : ST dd (keys L0) w w (oW w L0) L0 :=
 ⟨rfl, rfl, rfl, np.of (aJ _), aJ _, fun _ _ _ => rfl, fun b o h => by
  unfold oW at h; split at h
  ·cases h
  ·exact h, fun b o h => ⟨a b o h, by unfold oW; rw [ar ⟨o, h⟩], .inr ⟨o, h⟩⟩, c⟩
theorem ya {A B : List (Nat × Obj)} (h : ((A ++ B).map (·.1)).Nodup) {b : Nat} {o : Obj} (a : (b, o) ∈ B) : ¬ keys A b := by
 rintro ⟨o', c⟩
 rw [aP] at h
 exact (aF.1 h).2.2 b (aK.2 ⟨_, c, rfl⟩) b (aK.2 ⟨_, a, rfl⟩) rfl
theorem ST.back (h : ST dd F w W μ (L0 ++ L)) (j : nD dd L0 L1 W W') : ST dd F w W' (sK μ W W' L1) (L1 ++ L) := by
 have hk : ∀ b, keys L0 b → b < W.heap.size ∧ μ b = none ∧ (w.heap.size ≤ b ∨ F b) := fun b ⟨o, d⟩ => by
  obtain ⟨h1, g, m⟩ := h.box b o (aS _ d)
  exact ⟨kf h1, g, m⟩
 refine ⟨j.ex.os.trans h.os, j.ex.tape.trans h.tape, j.ex.output.trans h.output, np.trans h.drawn j.ex.drawn, bk h.size j.ex.size, fun b i n => ?_, fun b o d => ?_, fun b o d => ?_, ?_⟩
 ·rw [j.ex.iM b (cI i h.size) (fun k => by
   rcases (hk b k).2.2 with h | h
   ·omega
   ·exact n h)]
  exact h.iM b i n
 ·unfold sK at d
  split at d
  ·rename_i i
   rw [j.ex.iM b i (fun k => by rw [(hk b k).2.1] at d; cases d)]
   exact h.mem b o d
  ·split at d
   ·cases d
   ·exact d
 ·rcases aI.1 d with d | d
  ·obtain ⟨h1, g⟩ := j.held b o d
   refine ⟨h1, ?_, ?_⟩
   ·unfold sK
    split
    ·rename_i i
     rcases g with g | g
     ·omega
     ·exact (hk b g).2.1
    ·rw [ar ⟨o, d⟩]
   ·rcases g with g | g
    ·exact .inl (bk h.size g)
    ·exact (hk b g).2.2
  ·obtain ⟨h1, g, m⟩ := h.box b o (bB _ d)
   refine ⟨?_, ?_, m⟩
   ·rw [j.ex.iM b (kf h1) (ya h.nd d)]; exact h1
   ·unfold sK; rw [ar (kf h1)]; exact g
 ·rw [aP]
  have q : (L.map (·.1)).Nodup := by have := h.nd; rw [aP] at this; exact (aF.1 this).2.1
  refine aF.2 ⟨j.nd, q, fun a r c s e => ?_⟩
  subst e
  obtain ⟨⟨b, o⟩, d, rfl⟩ := aK.1 r
  obtain ⟨⟨p, o'⟩, l, e⟩ := aK.1 s
  simp at e; subst e
  have i := h.xg (bB _ l)
  rcases (j.held p o d).2 with g | g
  ·omega
  ·exact ya h.nd l g
theorem ST.wF (h : ST dd F w W μ L) (W' : World) (L1 : List (Nat × Obj)) : Lo F w μ (sK μ W W' L1) := fun b a _ => ar (cI a h.size)
theorem ST.vj (h : ST dd F w W μ L) (W' : World) (L1 : List (Nat × Obj)) : ig μ (sK μ W W' L1) := fun b o a => by
 unfold sK; rw [ar (h.vH a)]; exact a
theorem ST.D2 (h : ST dd F w W μ L) (c : ∀ p, p ∈ L0 → p ∈ L) : ig μ (oW W L0) := fun b o a => by
 unfold oW
 rw [al]
 ·exact h.mem b o a
 ·rintro ⟨o', d⟩
  rw [(h.box b o' (c _ d)).2.1] at a
  cases a
theorem nD.yZ (h : Ex dd w W) (c : ∀ b o, (b, o) ∈ L1 → W.heap[b]? = some o ∧ w.heap.size ≤ b) (d : (L1.map (·.1)).Nodup) : nD dd [] L1 w W :=
 ⟨⟨h.os, h.tape, h.output, h.drawn, h.size, fun b a _ => h.iM b a⟩, fun b o a => ⟨(c b o a).1, .inl (c b o a).2⟩, d⟩
end
def ir (dd : Bool) (P : Program) (f : FuncId) (args : List Value) (w : World) (L0 : List (Nat × Obj)) (K : Value → List (Nat × Obj) → World → Prop) : Prop :=
 Calls P f args.toArray w fun e a => ∃ v L1, e = .returned v ∧ nD dd L0 L1 w a ∧ K v L1 a
def iz (dd : Bool) {α : Type} (P : Program) (f : FuncId) (args : List Value) (w : World) (e : TypeId) (enc : α → List Value) (k : Nat) (l : List α) : Prop :=
 ir dd P f args w [] fun v R _ => gI e enc k v l R
theorem nD.kC {L0 L1 : List (Nat × Obj)} {w a : World} (h : nD true L0 L1 w a) : nD dd L0 L1 w a := ⟨⟨h.ex.os, h.ex.tape, h.ex.output, np.of (h.ex.drawn rfl), h.ex.size, h.ex.iM⟩, h.held, h.nd⟩
theorem iC.kC {P : Program} {f : FuncId} {args : List Value} {w : World} {v : Value} (h : iC true P f args w v) : iC dd P f args w v := bG h fun _ _ h => ⟨h.1, h.2.kC⟩
theorem ir.kC {P : Program} {f : FuncId} {args : List Value} {w : World} {L0 : List (Nat × Obj)} {K : Value → List (Nat × Obj) → World → Prop} (h : ir true P f args w L0 K) : ir dd P f args w L0 K := bG h fun _ _ ⟨v, L1, h1, a, b⟩ => ⟨v, L1, h1, a.kC, b⟩
theorem iz.kC {α : Type} {P : Program} {f : FuncId} {args : List Value} {w : World} {e : TypeId} {enc : α → List Value} {k : Nat} {l : List α} (h : iz true P f args w e enc k l) : iz dd P f args w e enc k l := ir.kC h
section
variable {P : Program} {E : Nat → Value} {W : World} {d : Option Nat} {ty : TypeId} {pos : String} {af : Array Edge} {g : Option (Nat × Bool)}
 {F : Nat → Prop} {w : World} {μ : gT} {L : List (Nat × Obj)}
theorem CP {K : Value → World → Prop} {K' : Value → List (Nat × Obj) → World → Prop} {f : FuncId} {fv : Operand} {ax : Array Operand} {ats : Array TypeId} {caps : Array Value} {args : List Value} (L0 L2 : List (Nat × Obj)) (a : ST dd F w W μ L) (b : L.Perm (L0 ++ L2)) (l : gv E fv = .func (.func f) #[] caps) (he : ∀ args w, (callFunc f args).run P w = .ok (.enter f args) w) (j : ax.map (gv E) ++ caps = args.toArray) (k : ir dd P f args W L0 K') (h : ∀ W' v μ' L1, ST dd F w W' μ' (L1 ++ L2) → ig μ μ' → Lo F w μ μ' → K' v L1 W' → K v W') : jx P E ⟨d, .call ⟨.value fv, ax, ats⟩, ty, pos, af, g⟩ W K :=
 xY l he j (bG k (fun _ W' ⟨v, L1, h1, c, i⟩ => ⟨v, h1, h W' v _ L1 ((a.perm b).back c) ((a.perm b).vj W' L1) ((a.perm b).wF W' L1) i⟩))
theorem Bv {K : Value → World → Prop} {α : Type} {e : TypeId} {enc : α → List Value} {k : Nat} {l : List α} {f : FuncId} {fv : Operand} {ax : Array Operand} {ats : Array TypeId} {caps : Array Value} {args : List Value} (X Y : List (Nat × Obj)) (a : ST dd F w W μ (X ++ Y)) (n : gv E fv = .func (.func f) #[] caps) (he : ∀ args w, (callFunc f args).run P w = .ok (.enter f args) w) (j : ax.map (gv E) ++ caps = args.toArray) (m : iz dd P f args W e enc k l) (h : ∀ W' v μ' R, ST dd F w W' μ' (X ++ (R ++ Y)) → ig μ μ' → Lo F w μ μ' → gI e enc k v l R → K v W') : jx P E ⟨d, .call ⟨.value fv, ax, ats⟩, ty, pos, af, g⟩ W K :=
 CP [] (X ++ Y) a (.refl _) n he j m (fun W' v μ' L1 h1 b i c => h W' v μ' L1 (h1.perm (by rw [← ay, ← ay]; exact List.perm_append_comm.append_right Y)) b i c)
end
theorem ST.jd {w W : World} {μ : gT} {L R : List (Nat × Obj)} (h : ST dd gN w W μ L) (a : ∀ p, p ∈ R → p ∈ L) (d : (R.map (·.1)).Nodup) : nD dd [] R w W :=
 nD.yZ h.ex (fun b o c => ⟨(h.box b o (a _ c)).1, by
  rcases (h.box b o (a _ c)).2.2 with h | h
  ·exact h
  ·exact h.elim⟩) d
theorem iu {P : Program} {E : Nat → Value} {W : World} {d : Option Nat} {ty : TypeId} {pos : String} {af : Array Edge} {g : Option (Nat × Bool)} {α : Type} {e' : TypeId} {enc : α → List Value} {k : Nat} {v : Value} {l : List α} {R : List (Nat × Obj)} {x : Operand} {t e : TypeId} (a : P.underlying t = some (.slice e)) (b : gv E x = v) (h : gI e' enc k v l R) : iB P E ⟨d, .call ⟨.builtin .len, #[x], #[t]⟩, ty, pos, af, g⟩ W (.int .i64 l.length) W := by
 obtain ⟨A, c, rfl⟩ := h.form
 exact vP a b
section
variable {α : Type} {e : TypeId} {enc : α → List Value} {k : Nat} {v : Value} {l : List α} {R : List (Nat × Obj)}
theorem gI.nd (h : gI e enc k v l R) : (R.map (·.1)).Nodup := by
 rcases h with ⟨rfl, rfl, rfl⟩ | ⟨g, cap, a, rfl, rfl, _⟩ <;> simp
end
end Go.Proofs.YtbnbdigcbldfhaaGreat
namespace Go.Proofs.YtbnbdigcbldfhaaGreat
open Go.RowKit
variable {dd : Bool}
def tE (R : List (Nat × Obj)) (k : Nat) (p : Value) (i : Nat) : Prop := ∃ g o, R = [(g, o)] ∧ p = .pointer (some ⟨g, i * k, none⟩)
section
variable {P : Program} {E : Nat → Value} {W : World} {d : Option Nat} {ty : TypeId} {pos : String} {af : Array Edge} {g : Option (Nat × Bool)}
 {F : Nat → Prop} {w : World} {μ : gT} {L : List (Nat × Obj)} {α : Type} {e' : TypeId} {enc : α → List Value} {k : Nat} {v : Value} {l : List α} {R : List (Nat × Obj)}
theorem ie {t e : TypeId} {x b : Operand} {s : IntKind} {i : Int} {x0 : α} (q : P.underlying t = some (.slice e)) (he : ∀ w, (sizeOf e).run P w = .ok k w) (r : gv E x = v) (n : gv E b = .int s i) (h : gI e' enc k v l R) (j : 0 ≤ i) (o : l[i.toNat]? = some x0) :
  ∃ p, tE R k p i.toNat ∧ ∀ W, iB P E ⟨d, .indexAddr t x b, ty, pos, af, g⟩ W p W := by
 have a : i.toNat < l.length := (aC.1 o).1
 rcases h with ⟨rfl, rfl, rfl⟩ | ⟨g', cap, c, rfl, rfl, h1, u, y, A⟩
 ·simp at a
 refine ⟨.pointer (some ⟨g', i.toNat * k, none⟩), ⟨_, _, rfl, rfl⟩, fun W => ?_⟩
 show (do pure (.value (← Instr.indexAt t (gv E x) (gv E b))) : Sem Next).run P W = _
 rw [r, n]
 have m : 0 ≤ i ∧ i < (l.length : Int) := ⟨j, by omega⟩
 simp [Instr.indexAt, asIntOf, aq q, he W, m, cg]
theorem sm (h : gI e' enc k v l R) (hk : ∀ x, (enc x).length = k) {p : Value} {i : Nat} (hp : tE R k p i) {x0 : α} (m : l[i]? = some x0) :
  ∃ g a cap, R = [(g, .cells a e' (0, 0))] ∧ v = .slice (some ⟨g, 0, none⟩) l.length cap ∧ l.length ≤ cap ∧ cap ≤ maxLen ∧ a.size = cap * k ∧ a.toList.take (l.length * k) = (l.map enc).flatten ∧ p = .pointer (some ⟨g, i * k, none⟩) ∧ ∀ j y, (enc x0)[j]? = some y → a[i * k + j]? = some y := by
 have c : i < l.length := (aC.1 m).1
 rcases h with ⟨rfl, rfl, rfl⟩ | ⟨g', cap, a, rfl, rfl, h1, q, r, d⟩
 ·simp at c
 obtain ⟨g2, o, n, rfl⟩ := hp
 cases n
 refine ⟨g', a, cap, rfl, rfl, h1, q, r, d, rfl, fun j y s => ?_⟩
 have := qQ hk l i x0 m j y s
 rw [← d] at this
 have b : i * k + j < l.length * k := by
  have := (aC.1 this).1
  simp at this; omega
 rw [cw b] at this
 simpa using this
theorem je {A : List (Nat × Obj)} (hH : mu μ A W) (c : ∀ q, q ∈ R → q ∈ A) (h : gI e' enc k v l R) (hk : ∀ x, (enc x).length = k) {p : Value} {i : Nat} (hp : tE R k p i) {x0 : α} (j : l[i]? = some x0) {t : TypeId} (d : ∀ w, (isAgg t).run P w = .ok true w) (g : ∀ w, (sizeOf t).run P w = .ok k w) : (Instr.loadAt t p).run P W = .ok (.agg (enc x0).toArray) W := by
 obtain ⟨g', a, cap, rfl, rfl, _, _, _, _, rfl, b⟩ := sm h hk hp j
 exact tr d (enc x0) (by rw [hk]; exact g) (hH.2 _ _ (c _ (aA.2 rfl))) b
theorem oF {A : List (Nat × Obj)} (hH : mu μ A W) (c : ∀ q, q ∈ R → q ∈ A) (h : gI e' enc k v l R) (hk : ∀ x, (enc x).length = k) {p : Value} {i : Nat} (hp : tE R k p i) {x0 : α} (g : l[i]? = some x0) {t : TypeId} {y : Value} (j : enc x0 = [y]) (d : ∀ w, (isAgg t).run P w = .ok false w) : (Instr.loadAt t p).run P W = .ok y W := by
 obtain ⟨g', a, cap, rfl, rfl, _, _, _, _, rfl, b⟩ := sm h hk hp g
 exact tz d (hH.2 _ _ (c _ (aA.2 rfl))) (b 0 y (by rw [j]; rfl))
theorem wv (hk : ∀ x, (enc x).length = k) : ∀ (l : List α) (i : Nat) (y : α), i < l.length → ((l.set i y).map enc).flatten = (l.map enc).flatten.take (i * k) ++ enc y ++ (l.map enc).flatten.drop (i * k + k)
 | [], i, y, h => by simp at h
 | z :: l, 0, y, h => by
  simp [hk]
 | z :: l, i + 1, y, h => by
  have := wv hk l i y (by simpa using h)
  simp only [List.set_cons_succ, aN, bP, this]
  have h1 : (i + 1) * k = (enc z).length + i * k := by rw [hk, aZ]; omega
  rw [h1, eJ, dh, List.drop_length_add_append]
  simp
theorem BD {K : Value → World → Prop} (X : List (Nat × Obj)) {Y : List (Nat × Obj)} {t : TypeId} {x y : Operand} {p u : Value} {i : Nat} {x0 x1 : α} (c : ST dd F w W μ (X ++ (R ++ Y))) (h : gI e' enc k v l R) (hk : ∀ x, (enc x).length = k) (h1 : ∀ x, ∀ u ∈ enc x, u.oneCell' = true) (Q : gv E x = p) (T : gv E y = u) (hu : u.cells = (enc x1).toArray) (hp : tE R k p i) (s : l[i]? = some x0) (M : ∀ w, (sizeOf t).run P w = .ok k w) (L : ∀ W' R', ST dd F w W' μ (X ++ (R' ++ Y)) → gI e' enc k v (l.set i x1) R' → K undef W') : jx P E ⟨d, .store t x y, ty, pos, af, g⟩ W K := by
 have o : i < l.length := (aC.1 s).1
 obtain ⟨g', a, cap, rfl, rfl, r, I, n, J, rfl, U⟩ := sm h hk hp s
 have hle : i * k + k ≤ cap * k := by
  have : (i + 1) * k ≤ cap * k := aW _ (by omega)
  rwa [aZ, ft] at this
 have j : i * k + k ≤ l.length * k := by
  have : (i + 1) * k ≤ l.length * k := aW _ (by omega)
  rwa [aZ, ft] at this
 have b : u.cells.size = k := by rw [hu]; simp [hk]
 have O := (c.box g' (.cells a e' (0, 0)) (by simp)).1
 have hlen : l.length * k ≤ cap * k := aW _ r
 refine .inr (.inl ⟨W.setRow g' (a.toList.take (i * k) ++ (enc x1) ++ a.toList.drop (i * k + k)).toArray, ?_, L _ [(g', .cells (a.toList.take (i * k) ++ (enc x1) ++ a.toList.drop (i * k + k)).toArray e' (0, 0))] (c.store _) (.inr ⟨g', cap, _, by simp, rfl, by simpa using r, I, ?_, ?_⟩)⟩)
 ·show (do Instr.storeAt t (gv E x) (gv E y); pure .skip : Sem Next).run P W = _
  rw [Q, T]
  have := tF P (off := i * k) u (by rw [b]; exact M) (by rw [hu]; simpa using h1 x1) O (by rw [b, n]; exact hle)
  simp only [aQ, this, aH, bA, b]
  rw [hu]
 ·show ((a.toList.take (i * k) ++ (enc x1) ++ a.toList.drop (i * k + k)).toArray).size = _
  have m : a.toList.length = cap * k := by simpa using n
  rw [cr, an, an, bO, et, hk, m, bW (by omega)]; omega
 ·rw [eE, wv hk l i x1 o, ← J]
  have A : (a.toList.take (l.length * k)).take (i * k) = a.toList.take (i * k) := by rw [ef]; congr 1; omega
  have G : (a.toList.take (l.length * k)).drop (i * k + k) = (a.toList.drop (i * k + k)).take (l.length * k - (i * k + k)) := by rw [eS]
  rw [A, G]
  show List.take (l.length * k) (a.toList.take (i * k) ++ enc x1 ++ a.toList.drop (i * k + k)) = _
  have m : a.toList.length = cap * k := by simpa using n
  have q : (a.toList.take (i * k) ++ enc x1).length = i * k + k := by rw [an, bO, hk, m, bW (by omega)]
  rw [dq, bR (by rw [q]; exact j), q]
theorem vv (hk : ∀ x, (enc x).length = k) : ∀ (l : List α) (i : Nat), i ≤ l.length → ((l.take i).map enc).flatten = (l.map enc).flatten.take (i * k)
 | [], i, h => by simp
 | z :: l, 0, h => by simp
 | z :: l, i + 1, h => by
  have := vv hk l i (by simpa using h)
  simp only [List.take_succ_cons, aN, bP, this]
  rw [show (i + 1) * k = (enc z).length + i * k by rw [hk, aZ]; omega, eJ]
theorem vl {t e : TypeId} {x ih : Operand} {A : IntKind} {i : Int} (j : P.underlying t = some (.slice e)) (he : ∀ w, (sizeOf e).run P w = .ok k w) (m : gv E x = v) (c : gv E ih = .int A i) (h : gI e' enc k v l R) (hk : ∀ x, (enc x).length = k) (p : 0 ≤ i) (y : i ≤ l.length) :
  ∃ n, gI e' enc k n (l.take i.toNat) R ∧ ∀ W, iB P E ⟨d, .slice t x none (some ih) none, ty, pos, af, g⟩ W n W := by
 have a : i.toNat ≤ l.length := by omega
 rcases h with ⟨rfl, rfl, rfl⟩ | ⟨g', cap, b, rfl, rfl, h1, q, r, s⟩
 ·have : i = 0 := by simp at y; omega
  subst this
  refine ⟨.slice none 0 0, .inl ⟨rfl, by simp, rfl⟩, fun W => ?_⟩
  show (do pure (.value (← Instr.sliceAt t (gv E x) none (some (gv E ih)) none)) : Sem Next).run P W = _
  rw [m, c]
  simp [Instr.sliceAt, Instr.slice, Instr.sliceBounds, Instr.sliceBound, asIntOf, aq j, he W]
 ·refine ⟨.slice (some ⟨g', 0, none⟩) (l.take i.toNat).length cap, .inr ⟨g', cap, b, rfl, rfl, by simp; omega, q, r, ?_⟩, fun W => ?_⟩
  ·have o : (l.take i.toNat).length = i.toNat := by rw [bO]; omega
   have hle : i.toNat * k ≤ l.length * k := aW _ a
   rw [o, vv hk l i.toNat a, ← s, ef, bW hle]
  ·show (do pure (.value (← Instr.sliceAt t (gv E x) none (some (gv E ih)) none)) : Sem Next).run P W = _
   rw [m, c]
   have u : 0 ≤ i ∧ i ≤ (cap : Int) := ⟨p, by omega⟩
   simp [Instr.sliceAt, Instr.slice, Instr.sliceBounds, Instr.sliceBound, asIntOf, aq j, he W, u, cg]
   omega
theorem tA {s : pJ α} {t e : TypeId} {x p : Operand} {ik : IntKind} {i : Int} (Y : P.underlying t = some (.slice e)) (he : ∀ w, (sizeOf e).run P w = .ok k w) (n : gv E x = v) (O : gv E p = .int ik i) (h : Sl s k μ v l) (u : 0 ≤ i) (Q : i ≤ l.length) :
  ∃ r, (Sl s k μ r (l.drop i.toNat) ∧ ∀ B, Fr B v → Fr B r) ∧ ∀ W, iB P E ⟨d, .slice t x (some p) none none, ty, pos, af, g⟩ W r W := by
 obtain ⟨A, c, rfl, h2, h3, G⟩ := h
 have R : i.toNat ≤ l.length := by omega
 refine ⟨.slice (if c = i.toNat then A else A.map (·.add (i.toNat * k))) (l.drop i.toNat).length (c - i.toNat), ⟨⟨_, _, rfl, by simp; omega, by omega, fun hp => ?_⟩, fun B M b m => ?_⟩, fun W => ?_⟩
 ·have U : i.toNat < l.length := by simp at hp; omega
  obtain ⟨b, off, cs, T, fr, rfl, I, J⟩ := G (by omega)
  refine ⟨b, off + i.toNat * k, cs, T, fr, ?_, I, fun j x n => ?_⟩
  ·rw [al (by omega)]; simp [cg]
  ·rw [cj] at n
   obtain ⟨ys, K, L, o⟩ := J _ x n
   refine ⟨ys, K, L, fun q y Z => ?_⟩
   have := o q y Z
   rw [aZ] at this
   rw [show off + i.toNat * k + j * k + q = off + (i.toNat * k + j * k) + q by omega]
   exact this
 ·refine M b ?_
  cases A with
  | none => simp [Value.ownBlock] at m
  | some a =>
   split at m
   ·exact m
   ·obtain ⟨b', o', s'⟩ := a
    cases s' <;> simp [Value.ownBlock, Addr.add] at m ⊢ <;> split at m <;> exact m
 ·show (do pure (.value (← Instr.sliceAt t (gv E x) (some (gv E p)) none none)) : Sem Next).run P W = _
  rw [n, O]
  have m : 0 ≤ i ∧ i ≤ (l.length : Int) := ⟨u, Q⟩
  simp [Instr.sliceAt, Instr.slice, Instr.sliceBounds, Instr.sliceBound, asIntOf, aq Y, he W, m]
end
end Go.Proofs.YtbnbdigcbldfhaaGreat
namespace Go.Proofs.YtbnbdigcbldfhaaGreat
open Go.RowKit
variable {dd : Bool}
section
variable {α : Type} {e : TypeId} {enc : α → List Value} {k : Nat} {v : Value} {l : List α} {R : List (Nat × Obj)} {μ : gT}
theorem gI.one (h : gI e enc k v l R) : v.oneCell' = true := by obtain ⟨A, c, rfl⟩ := h.form; rfl
theorem Sl.one {a : pJ α} (h : Sl a k μ v l) : v.oneCell' = true := by obtain ⟨A, c, rfl⟩ := h.form; rfl
theorem Sl.isNil {d : pJ α} {n c : Nat} (h : Sl d k μ (.slice none n c) l) : l = [] := by
 obtain ⟨A, j, h1, m, o, g⟩ := h
 cases h1
 rcases cy l.length with a | a
 ·exact bl.1 a
 ·obtain ⟨b, off, cs, T, fr, i, _⟩ := g a
  cases i
theorem gI.isNil {n c : Nat} (h : gI e enc k (.slice none n c) l R) : l = [] := by
 rcases h with ⟨h1, rfl, rfl⟩ | ⟨g, cap, a, h1, _⟩
 ·rfl
 ·cases h1
theorem ST.FB {w W : World} {μ : gT} {L1 L2 : List (Nat × Obj)} (h : ST dd gN w W μ (L1 ++ L2)) : nD dd [] L1 w W :=
 nD.yZ h.ex (fun b o a => ⟨(h.box b o (aS _ a)).1, by
  rcases (h.box b o (aS _ a)).2.2 with h | h
  ·exact h
  ·exact h.elim⟩) (by have := h.nd; rw [aP] at this; exact (aF.1 this).1)
theorem ST.yY {w W : World} {μ : gT} {L0 L1 L2 : List (Nat × Obj)} (h : ST dd (keys L0) w W μ (L1 ++ L2)) : nD dd L0 L1 w W :=
 ⟨⟨h.os, h.tape, h.output, h.drawn, h.size, h.iM⟩, fun b o a => ⟨(h.box b o (aS _ a)).1, (h.box b o (aS _ a)).2.2⟩, by have := h.nd; rw [aP] at this; exact (aF.1 this).1⟩
end
end Go.Proofs.YtbnbdigcbldfhaaGreat
namespace Go.Proofs.YtbnbdigcbldfhaaGreat
open Go.RowKit
variable {dd : Bool}
def gQ {κ β : Type} (beq : κ → κ → Bool) (l : List (κ × β)) (k : κ) : Option β := (l.find? (fun p => beq k p.1)).map (·.2)
def iQ {κ β : Type} (beq : κ → κ → Bool) (l : List (κ × β)) (k : κ) (v : β) : List (κ × β) :=
 match l.findIdx? (fun p => beq k p.1) with
 | some i => l.set i (k, v)
 | none => l ++ [(k, v)]
structure my {κ β : Type} (kenc : κ → Value) (vf : β → Value) (l : List (κ × β)) (es : Array MapEntry) (clock : Nat) : Prop where
 re : es.toList.map (fun e => (e.key, e.val)) = l.map (fun p => (kenc p.1, vf p.2))
 born : es.toList.Pairwise (fun a b => a.born < b.born)
 lt : ∀ e ∈ es.toList, e.born < clock
def gV {κ β : Type} (kenc : κ → Value) (vf : β → Value) (v : Value) (l : List (κ × β)) (R : List (Nat × Obj)) : Prop :=
 ∃ m es clock, v = .map (some m) ∧ R = [(m, .map es clock)] ∧ my kenc vf l es clock
def lz {κ β : Type} (kenc : κ → Value) (vf : β → Value) (μ : gT) (v : Value) (l : List (κ × β)) : Prop :=
 (v = .map none ∧ l = []) ∨ ∃ m es clock, v = .map (some m) ∧ μ m = some (.map es clock) ∧ my kenc vf l es clock
theorem lz.mono {κ β : Type} {kenc : κ → Value} {vf : β → Value} {μ μ' : gT} {v : Value} {l : List (κ × β)} (h : lz kenc vf μ v l) (c : ig μ μ') : lz kenc vf μ' v l := by
 rcases h with h | ⟨m, es, clock, h1, a, b⟩
 ·exact .inl h
 ·exact .inr ⟨m, es, clock, h1, c _ _ a, b⟩
theorem gV.at {κ β : Type} {kenc : κ → Value} {vf : β → Value} {μ : gT} {v : Value} {l : List (κ × β)} {R : List (Nat × Obj)} (h : gV kenc vf v l R) (c : ∀ b o, (b, o) ∈ R → μ b = some o) : lz kenc vf μ v l := by
 obtain ⟨m, es, clock, rfl, rfl, a⟩ := h
 exact .inr ⟨m, es, clock, rfl, c _ _ (aA.2 rfl), a⟩
structure jI {κ : Type} (P : Program) (kt : TypeId) (kenc : κ → Value) (beq : κ → κ → Bool) : Prop where
 check : ∀ b k W, (Instr.checkKey b 10000 kt (kenc k)).run P W = .ok () W
 find : ∀ (k : κ) (l : List κ) (es : List MapEntry), es.map (·.key) = l.map kenc → ∀ W, (Instr.findKey kt (kenc k) es).run P W = .ok ((l.findIdx? (fun x => beq k x)).bind fun i => (es[i]?).map fun e => (i, e.val)) W
 eq : ∀ k x, beq k x = true → kenc x = kenc k
 bits : ∀ k, Instr.sameBits 10000 (kenc k) (kenc k) = true
section
variable {P : Program} {W : World} {κ : Type} {kt : TypeId} {kenc : κ → Value} {beq : κ → κ → Bool}
theorem tS (a : ∀ x y W, (Op.equal kt (kenc x) (kenc y)).run P W = .ok (beq x y) W) (k : κ) : ∀ (l : List κ) (es : List MapEntry) (i : Nat), es.map (·.key) = l.map kenc →
  (Instr.findAsking kt (kenc k) es i).run P W = .ok ((l.findIdx? (fun x => beq k x)).bind fun j => (es[j]?).map fun e => (i + j, e.val)) W
 | [], [], i, h => by simp [Instr.findAsking]
 | [], _ :: _, i, h => by simp at h
 | _ :: _, [], i, h => by simp at h
 | x :: l, e :: es, i, h => by
  simp only [aN, cD] at h
  obtain ⟨h1, b⟩ := h
  simp only [Instr.findAsking, aQ, h1, a, aH, cz]
  cases c : beq k x with
  | true => simp
  | false =>
   simp only [ap, bf]
   rw [tS a k l es (i + 1) b]
   cases l.findIdx? (fun x => beq k x) with
   | none => rfl
   | some j => simp [dh, Nat.add_comm 1 j]
theorem Aw {kind : TypeDesc} (hk : ∀ a b, Instr.sameNow kind (.agg a) b = none) (a : Array Value) : ∀ (es : List MapEntry) (i : Nat), Instr.findNow kind (.agg a) es i = if es = [] then some none else none
 | [], i => by simp [Instr.findNow]
 | e :: es, i => by simp [Instr.findNow, hk]
theorem jI.struct {enc : κ → List Value} {fs : Array Field} (n : P.underlying kt = some (.struct fs)) (m : ∀ d x y W, (Op.equalIn (d + 10) kt (.agg (enc x).toArray) (.agg (enc y).toArray)).run P W = .ok (beq x y) W) (j : ∀ b k W, (Instr.checkKey b 10000 kt (.agg (enc k).toArray)).run P W = .ok () W) (he : ∀ k x, beq k x = true → x = k) (i : ∀ k, Instr.sameBits 10000 (.agg (enc k).toArray) (.agg (enc k).toArray) = true) : jI P kt (fun x => .agg (enc x).toArray) beq where
 check := j
 find := fun k l es h W => by
  have c : ∀ x y W, (Op.equal kt (.agg (enc x).toArray) (.agg (enc y).toArray)).run P W = .ok (beq x y) W := fun x y W => m 9990 x y W
  simp only [Instr.findKey, aQ, aq n, aH]
  rw [Aw (fun a b => by cases b <;> rfl)]
  by_cases g : es = []
  ·subst g
   have : l = [] := by simpa using h.symm
   subst this
   simp
  ·rw [al g]
   dsimp only
   rw [show Instr.findAsking kt (.agg (enc k).toArray) es = Instr.findAsking kt (.agg (enc k).toArray) es 0 from rfl, tS c k l es 0 h]
   simp
 eq := fun k x h => by rw [he k x h]
 bits := i
theorem iE {a b : ByteArray} : gX a b = true ↔ a = b := by
 unfold gX
 rw [dj, dj]
 constructor
 ·intro h
  have h1 : a.data.toList = b.data.toList := by simpa using h
  exact fM (Array.toList_inj.1 h1)
 ·rintro rfl
  simp
theorem sM (a b : ByteArray) : (a == b) = gX a b := by
 rw [bI, iE]
 constructor
 ·intro h
  have h1 : (a.data == b.data) = true := h
  exact fM (by simpa using h1)
 ·rintro rfl
  show (a.data == a.data) = true
  simp
theorem tX (k : ByteArray) : ∀ (l : List ByteArray) (es : List MapEntry) (i : Nat), es.map (·.key) = l.map Value.string →
  Instr.findNow .string (.string k) es i = some ((l.findIdx? (fun x => gX k x)).bind fun j => (es[j]?).map fun e => (i + j, e.val))
 | [], [], i, h => by simp [Instr.findNow]
 | [], _ :: _, i, h => by simp at h
 | _ :: _, [], i, h => by simp at h
 | x :: l, e :: es, i, h => by
  simp only [aN, cD] at h
  obtain ⟨h1, a⟩ := h
  simp only [Instr.findNow, h1, Instr.sameNow, sM, cz]
  cases b : gX k x with
  | true => simp
  | false =>
   simp only [ap, bf]
   rw [tX k l es (i + 1) a]
   cases l.findIdx? (fun x => gX k x) with
   | none => rfl
   | some j => simp [dh, Nat.add_comm 1 j]
theorem mI (a : P.underlying kt = some .string) (n : Nat) (b : Bool) (k : ByteArray) (W : World) : (Instr.checkKey b (n + 1) kt (.string k)).run P W = .ok () W := by
 simp [Instr.checkKey, aq a]
theorem jI.string (a : P.underlying kt = some .string) : jI P kt Value.string gX where
 check := fun b k W => mI a 9999 b k W
 find := fun k l es h W => by
  simp only [Instr.findKey, aQ, aq a, aH]
  have := tX k l es 0 h
  rw [this]
  simp
 eq := fun k x h => by rw [iE.1 h]
 bits := fun k => by simp only [Instr.sameBits]; rw [sM]; exact iE.2 rfl
variable {β : Type} {vf : β → Value} {E : Nat → Value} {d : Option Nat} {ty : TypeId} {pos : String} {af : Array Edge} {g : Option (Nat × Bool)} {F : Nat → Prop} {w : World} {μ : gT} {L : List (Nat × Obj)}
theorem my.keys {l : List (κ × β)} {es : Array MapEntry} {clock : Nat} (h : my kenc vf l es clock) : es.toList.map (·.key) = (l.map (·.1)).map kenc := by
 have := aw (List.map Prod.fst) h.re
 simpa [db] using this
theorem my.length {l : List (κ × β)} {es : Array MapEntry} {clock : Nat} (h : my kenc vf l es clock) : es.size = l.length := by
 have := aw List.length h.re
 simpa using this
theorem my.get {l : List (κ × β)} {es : Array MapEntry} {clock : Nat} (h : my kenc vf l es clock) (k : κ) :
  (((l.map (·.1)).findIdx? (fun x => beq k x)).bind fun i => (es.toList[i]?).map fun e => (i, e.val)) = (l.findIdx? (fun p => beq k p.1)).bind fun i => (l[i]?).map fun p => (i, vf p.2) := by
 rw [ei]
 show ((l.findIdx? (fun p => beq k p.1)).bind _) = _
 congr 1
 funext i
 have := aw (fun q => q[i]?) h.re
 simp only [ch] at this
 cases h1 : es.toList[i]? with
 | none => rw [h1] at this; cases a : l[i]? with
  | none => rfl
  | some p => rw [a] at this; cases this
 | some e => rw [h1] at this; cases a : l[i]? with
  | none => rw [a] at this; cases this
  | some p => rw [a] at this; simp at this; simp [this.2]
theorem pq (l : List (κ × β)) (k : κ) : gQ beq l k = (l.findIdx? (fun p => beq k p.1)).bind fun i => (l[i]?).map (·.2) := by
 induction l with
 | nil => rfl
 | cons p l ih =>
  simp only [gQ, fY, cz] at ih ⊢
  cases beq k p.1 with
  | true => rfl
  | false =>
   simp only [ap, bf]
   rw [ih]
   cases l.findIdx? (fun p => beq k p.1) <;> simp
theorem zr {t e : TypeId} {m x : Operand} {q z : Value} {l : List (κ × β)} {k : κ} (K : jI P kt kenc beq) (n : P.underlying t = some (.map kt e)) (b : ∀ w, (zeroValue e).run P w = .ok z w) (hm : gv E m = q) (v : gv E x = kenc k) (s : lz kenc vf (hp W) q l) :
  iB P E ⟨d, .lookup t m x false, ty, pos, af, g⟩ W (((gQ beq l k).map vf).getD z) W := by
 show (do pure (.value (← Instr.lookup t (gv E m) (gv E x) false)) : Sem Next).run P W = _
 rw [hm, v]
 rcases s with ⟨rfl, rfl⟩ | ⟨o, es, clock, rfl, u, c⟩
 ·have := K.find k [] [] rfl W
  simp [Instr.lookup, aq n, K.check, this, b W, gQ]
 ·have a : W.heap[o]? = some (.map es clock) := u
  have r : (getObj o : Sem Obj).run P W = .ok (.map es clock) W := by simp [getObj, Sem.run, a]
  have h := K.find k _ _ c.keys W
  rw [c.get k] at h
  simp only [Instr.lookup, aQ, aq n, aH, r, bA, K.check, h, pq]
  cases y : l.findIdx? (fun p => beq k p.1) with
  | none => simp [b W]
  | some i =>
   cases j : l[i]? with
   | none => simp [j, b W]
   | some p => simp [j]
theorem kQ {l : List (κ × β)} {k : κ} {i : Nat} (h : l.findIdx? (fun p => beq k p.1) = some i) : ∃ p, l[i]? = some p ∧ beq k p.1 = true := by
 rw [bF] at h
 obtain ⟨h1, a, _⟩ := h
 exact ⟨l[i], bX h1, a⟩
theorem my.put {l : List (κ × β)} {es : Array MapEntry} {clock : Nat} (h : my kenc vf l es clock) (k : κ) (v : β) :
  match l.findIdx? (fun p => beq k p.1) with
  | some i => my kenc vf (l.set i (k, v)) (es.modify i fun e => { e with key := kenc k, val := vf v }) clock
  | none => my kenc vf (l ++ [(k, v)]) (es.push { key := kenc k, val := vf v, born := clock }) (clock + 1) := by
 cases o : l.findIdx? (fun p => beq k p.1) with
 | none =>
  refine ⟨?_, ?_, ?_⟩
  ·simp [h.re]
  ·simp only [Array.toList_push, dD]
   exact ⟨h.born, by simp, fun a t b n => by simp at n; subst n; exact h.lt a t⟩
  ·intro e he
   simp at he
   rcases he with he | rfl
   ·exact Nat.lt_succ_of_lt (h.lt e (by simpa using he))
   ·exact bn _
 | some i =>
  obtain ⟨p, hp, _⟩ := kQ o
  have u : i < l.length := (aC.1 hp).1
  have c : (es.modify i fun e => { e with key := kenc k, val := vf v }).toList.map (·.born) = es.toList.map (·.born) := by
   apply cC
   intro j
   simp only [ch, bp, cd]
   split
   ·cases es[j]? <;> simp
   ·rfl
  refine ⟨?_, ?_, ?_⟩
  ·apply cC
   intro j
   have g := aw (fun q => q[j]?) h.re
   simp only [ch, bp] at g
   simp only [ch, bp, cd, da]
   by_cases d : i = j
   ·subst d
    simp only [bi]
    rw [ar u]
    cases r : es[i]? with
    | none => rw [r, hp] at g; cases g
    | some e => rfl
   ·rw [al d, al d]; exact g
  ·have := h.born
   rw [← ct (f := fun e : MapEntry => e.born) (R := (· < ·))] at this ⊢
   rw [c]; exact this
  ·intro e he
   have : e.born ∈ es.toList.map (·.born) := by rw [← c]; exact aK.2 ⟨e, he, rfl⟩
   obtain ⟨e', m, s⟩ := aK.1 this
   rw [← s]; exact h.lt e' m
theorem nM {W : World} {r : Nat} {es : Array MapEntry} {c : Nat} (a : W.heap[r]? = some (.map es c)) (o' : Obj) : (setObj r o').run P W = .ok () (ChangeMaps.setBlock W r o') := by
 simp [setObj, Sem.run, a, ChangeMaps.setBlock]
theorem ST.setBlock {A B : List (Nat × Obj)} {b : Nat} {o : Obj} (h : ST dd F w W μ (A ++ (b, o) :: B)) (o' : Obj) : ST dd F w (ChangeMaps.setBlock W b o') μ (A ++ (b, o') :: B) := by
 have c := (h.box b o (by simp)).1
 have a := kf c
 refine h.put ⟨rfl, rfl, rfl, aJ _, by simp [ChangeMaps.setBlock]⟩ (fun k hk => ?_) ?_
 ·simp only [ChangeMaps.setBlock]
  rw [Array.getElem?_setIfInBounds_ne (fun e => hk e.symm)]
 ·simp only [ChangeMaps.setBlock]
  rw [Array.getElem?_setIfInBounds_self_of_lt a]
theorem qZ {I : Value → World → Prop} (X : List (Nat × Obj)) {Y R : List (Nat × Obj)} {t e : TypeId} {m x y : Operand} {G : Value} {l : List (κ × β)} {k : κ} {v : β} (K : jI P kt kenc beq) (M : P.underlying t = some (.map kt e)) (j : ST dd F w W μ (X ++ (R ++ Y))) (h : gV kenc vf G l R) (hm : gv E m = G) (Q : gv E x = kenc k) (T : gv E y = vf v) (L : ∀ W' R', ST dd F w W' μ (X ++ (R' ++ Y)) → gV kenc vf G (iQ beq l k v) R' → I undef W') : jx P E ⟨d, .mapUpdate t m x y, ty, pos, af, g⟩ W I := by
 obtain ⟨b, es, clock, rfl, rfl, s⟩ := h
 have u : W.heap[b]? = some (.map es clock) := (j.box b (.map es clock) (by simp)).1
 have J : (getObj b : Sem Obj).run P W = .ok (.map es clock) W := by simp [getObj, Sem.run, u]
 have n := K.find k _ _ s.keys W
 rw [s.get k] at n
 have a := s.put (beq := beq) k v
 have c : ∀ W', (Instr.mapUpdate t (.map (some b)) (kenc k) (vf v)).run P W = .ok () W' → (execOp (gv E) ⟨d, .mapUpdate t m x y, ty, pos, af, g⟩).run P W = .ok .skip W' := by
  intro W' O
  show (do Instr.mapUpdate t (gv E m) (gv E x) (gv E y); pure .skip : Sem Next).run P W = _
  rw [hm, Q, T]
  simp [O]
 cases o : l.findIdx? (fun p => beq k p.1) with
 | none =>
  rw [o] at n a
  refine .inr (.inl ⟨ChangeMaps.setBlock W b (.map (es.push { key := kenc k, val := vf v, born := clock }) (clock + 1)), c _ ?_, L _ [(b, _)] (j.setBlock _) ⟨b, _, _, rfl, rfl, ?_⟩⟩)
  ·simp [Instr.mapUpdate, aq M, J, K.check, n, nM u]
  ·rw [iQ, o]; exact a
 | some i =>
  obtain ⟨p, hp, A⟩ := kQ o
  rw [o] at n a
  simp only [aa, hp, bJ] at n
  have r : ((es[i]?).map (·.key)).getD (kenc k) = kenc k := by
   have := aw (fun q => q[i]?) s.keys
   simp only [ch, hp, bJ, bp] at this
   rw [this]
   simp [K.eq k p.1 A]
  refine .inr (.inl ⟨ChangeMaps.setBlock W b (.map (es.modify i fun e => { e with key := kenc k, val := vf v }) clock), c _ ?_, L _ [(b, _)] (j.setBlock _) ⟨b, _, _, rfl, rfl, ?_⟩⟩)
  ·simp only [Instr.mapUpdate, aQ, aq M, J, K.check, n, aH, r, Instr.keyThatStays, K.bits, bi, bA]
   exact nM u _
  ·rw [iQ, o]; exact a
theorem zg {t e : TypeId} {m : Operand} {c : Value} {l : List (κ × β)} (b : P.underlying t = some (.map kt e)) (hm : gv E m = c) (i : lz kenc vf (hp W) c l) :
  iB P E ⟨d, .call ⟨.builtin .len, #[m], #[t]⟩, ty, pos, af, g⟩ W (.int .i64 l.length) W := by
 show (do let d ← resolve (gv E) ⟨.builtin .len, #[m], #[t]⟩ ty; invoke d.target d.args : Sem Next).run P W = _
 rcases i with ⟨rfl, rfl⟩ | ⟨k, es, clock, rfl, j, h⟩
 ·simp [resolve, invoke, builtin, Builtin.len_, aq b, hm, goInt]
 ·have a : W.heap[k]? = some (.map es clock) := j
  simp [resolve, invoke, builtin, Builtin.len_, aq b, hm, goInt, getObj, Sem.run, a, h.length]
theorem ry {b : Value → World → Prop} {t : TypeId} (kenc : κ → Value) (vf : β → Value) (a : ST dd F w W μ L) (c : ∀ W' v R, ST dd F w W' μ (R ++ L) → gV kenc vf v [] R → b v W') : jx P E ⟨d, .makeMap t none, ty, pos, af, g⟩ W b :=
 .inl ⟨.map (some W.heap.size), W.alloc (.map #[] 0), by
   show (do pure (.value (← Instr.makeMap t none)) : Sem Next).run P W = _
   simp [Instr.makeMap, newObj, Sem.run], c _ _ [(W.heap.size, .map #[] 0)] (a.alloc _) ⟨_, _, _, rfl, rfl, ⟨rfl, by simp, by simp⟩⟩⟩
end
end Go.Proofs.YtbnbdigcbldfhaaGreat
namespace Go.Proofs.YtbnbdigcbldfhaaGreat
open Go.RowKit
variable {dd : Bool}
open Classical in
noncomputable def rq {α β : Type} (l : List α) (f : List α → Option β) : Option β :=
 if h : ∃ r, ∀ o, o.Perm l → f o = some r then some h.choose else none
theorem yi {α β : Type} {l : List α} {f : List α → Option β} {r : β} (h : rq l f = some r) : ∀ o, o.Perm l → f o = some r := by
 unfold rq at h
 split at h
 ·rename_i a
  cases h
  exact a.choose_spec
 ·cases h
theorem wZ {α β : Type} {l : List α} {f : List α → Option β} {r : β} (h : ∀ o, o.Perm l → f o = some r) : rq l f = some r := by
 have a : ∃ r, ∀ o, o.Perm l → f o = some r := ⟨r, h⟩
 unfold rq
 rw [dif_pos a]
 have h1 := a.choose_spec l (.refl l)
 rw [h l (.refl l)] at h1
 exact h1.symm
def wP {κ β : Type} (kenc : κ → Value) (vf : β → Value) (μ : gT) (v : Value) (left : List (κ × β)) (R : List (Nat × Obj)) : Prop :=
 ∃ it, v = .pointer (some ⟨it, 0, none⟩) ∧ ((left = [] ∧ ∃ a s c, R = [(it, .mapIter none a s c)]) ∨
  ∃ (m : Nat) (es : Array MapEntry) (clock : Nat) (seen : Array Nat) (b : Nat) (l : List (κ × β)), μ m = some (.map es clock) ∧ my kenc vf l es clock ∧ R = [(it, .mapIter (some m) clock seen b)] ∧ clock ≤ b ∧ (leftOf es seen).toList.map (fun e => (e.key, e.val)) = left.map (fun p => (kenc p.1, vf p.2)))
def uS {κ β : Type} (kenc : κ → Value) (vf : β → Value) (μ : gT) (v : Value) (left : List (κ × β)) (R : List (Nat × Obj)) (p : κ × β) : Prop :=
 ∃ (it m : Nat) (es : Array MapEntry) (clock : Nat) (seen : Array Nat) (l : List (κ × β)) (e : MapEntry), v = .pointer (some ⟨it, 0, none⟩) ∧ μ m = some (.map es clock) ∧ my kenc vf l es clock ∧ R = [(it, .mapIter (some m) clock (seen.push e.born) clock)] ∧ e ∈ es.toList ∧ e.key = kenc p.1 ∧ e.val = vf p.2 ∧
  (leftOf es (seen.push e.born)).toList.map (fun e => (e.key, e.val)) = left.map (fun p => (kenc p.1, vf p.2))
section
variable {P : Program} {W : World} {κ β : Type} {kenc : κ → Value} {vf : β → Value} {E : Nat → Value} {d : Option Nat} {ty : TypeId} {pos : String} {af : Array Edge} {g : Option (Nat × Bool)} {F : Nat → Prop} {w : World} {μ : gT} {L R : List (Nat × Obj)} {v : Value} {left : List (κ × β)}
theorem uS.iter {p : κ × β} (h : uS kenc vf μ v left R p) : wP kenc vf μ v left R := by
 obtain ⟨it, m, es, clock, seen, l, e, h1, a, b, c, _, _, _, d⟩ := h
 exact ⟨it, h1, .inr ⟨m, es, clock, _, _, l, a, b, c, aJ _, d⟩⟩
theorem wP.mono {μ' : gT} (h : wP kenc vf μ v left R) (d : ig μ μ') : wP kenc vf μ' v left R := by
 obtain ⟨it, h1, h | ⟨m, es, clock, seen, a, l, b, c⟩⟩ := h
 ·exact ⟨it, h1, .inl h⟩
 ·exact ⟨it, h1, .inr ⟨m, es, clock, seen, a, l, d _ _ b, c⟩⟩
theorem D1 {h : Value → World → Prop} {t kt e : TypeId} {m : Operand} {o : Value} {l : List (κ × β)} (n : P.underlying t = some (.map kt e)) (b : ST dd F w W μ L) (hm : gv E m = o) (p : lz kenc vf μ o l) (j : ∀ W' v R, ST dd F w W' μ (R ++ L) → wP kenc vf μ v l R → h v W') : jx P E ⟨d, .range t m, ty, pos, af, g⟩ W h := by
 rcases p with ⟨rfl, rfl⟩ | ⟨c, es, clock, rfl, k, i⟩
 ·refine .inl ⟨_, _, ?_, j (W.alloc (.mapIter none 0 #[] 0)) (.pointer (some ⟨W.heap.size, 0, none⟩)) [(W.heap.size, _)] (b.alloc _) ⟨_, rfl, .inl ⟨rfl, _, _, _, rfl⟩⟩⟩
  show (do pure (.value (← Instr.range t (gv E m))) : Sem Next).run P W = _
  rw [hm]; simp [run_range_nilMap W t kt e n]
 ·refine .inl ⟨_, _, ?_, j (W.alloc (.mapIter (some c) clock #[] clock)) (.pointer (some ⟨W.heap.size, 0, none⟩)) [(W.heap.size, _)] (b.alloc _) ⟨_, rfl, .inr ⟨c, es, clock, #[], clock, l, k, i, rfl, aJ _, ?_⟩⟩⟩
  ·show (do pure (.value (← Instr.range t (gv E m))) : Sem Next).run P W = _
   rw [hm]; simp [run_range_map W t kt e c es clock n (b.mem _ _ k)]
  ·rw [← i.re]; simp only [leftOf, dS]; rw [dl.2 (fun a _ => by simp)]
theorem AE {l : List (κ × β)} {es : Array MapEntry} {clock : Nat} (h : my kenc vf l es clock) (seen : Array Nat) {e : MapEntry} (he : e ∈ (leftOf es seen).toList) :
  ∃ A B, (leftOf es seen).toList = A ++ e :: B ∧ (leftOf es (seen.push e.born)).toList = A ++ B := by
 have d : (leftOf es seen).toList.Pairwise (fun a b => a.born < b.born) := by
  simp only [leftOf, dS]
  exact h.born.filter _
 have k : (leftOf es (seen.push e.born)).toList = (leftOf es seen).toList.filter (fun x => !(x.born == e.born)) := by
  simp only [leftOf, dS, List.filter_filter]
  congr 1
  funext x
  rw [show (seen.push e.born).contains x.born = (seen.contains x.born || x.born == e.born) by rw [bI]; simp [Array.mem_push]]
  cases seen.contains x.born <;> cases (x.born == e.born) <;> rfl
 obtain ⟨A, B, c⟩ := du he
 refine ⟨A, B, c, ?_⟩
 rw [k, c]
 rw [c] at d
 have h1 := dD.1 d
 have g := bT.1 h1.2.1
 simp only [eT, cR, bY, bQ, ap, bf]
 congr 1
 ·rw [dl]
  intro a i
  have := h1.2.2 a i e (by simp)
  simp; omega
 ·rw [dl]
  intro b j
  have := g.1 b j
  simp; omega
theorem Bq {l : List (κ × β)} {es : Array MapEntry} {clock : Nat} (h : my kenc vf l es clock) : (es.toList.map (·.born)).Nodup := by
 rw [List.Nodup, ct]
 exact h.born.imp (fun h => Nat.ne_of_lt h)
theorem Ef {x : Operand} {p : κ × β} (hH : ∀ q, q ∈ R → W.heap[q.1]? = some q.2) (hm : ∀ b o, μ b = some o → W.heap[b]? = some o) (h : uS kenc vf μ v left R p) (n : gv E x = v) :
  iB P E ⟨d, .entry x, ty, pos, af, g⟩ W (.tuple #[kenc p.1, vf p.2]) W := by
 obtain ⟨it, m, es, clock, seen, l, e, rfl, a, c, rfl, i, j, k, _⟩ := h
 have := run_entry_at (P := P) W it m clock seen es clock e (hH _ (aA.2 rfl)) (hm _ _ a) i (Bq c)
 show (do pure (.value (← Instr.entry (gv E x))) : Sem Next).run P W = _
 rw [n, ← j, ← k]
 simp [this]
end
end Go.Proofs.YtbnbdigcbldfhaaGreat
namespace Go.Proofs.YtbnbdigcbldfhaaGreat
open Go.RowKit
variable {dd : Bool}
def xh {α β : Type} (P : Program) (fv : Value) (μ : gT) (av : α → List Value) (a : β → Value) (pm : α → Option β) : Prop :=
 ∃ f caps, fv = .func (.func f) #[] caps ∧ (∀ args w, (callFunc f args).run P w = .ok (.enter f args) w) ∧ ∀ W x r, ig μ (hp W) → pm x = some r → iC true P f (av x ++ caps.toList) W (a r)
def qv {α β : Type} (P : Program) (fv : Value) (μ : gT) (av : α → List Value) (a : β → Value) (pm : α → Option β) : Prop :=
 ∃ f first caps, fv = .func (.func f) first caps ∧ (∀ args w, (callFunc f args).run P w = .ok (.enter f args) w) ∧ ∀ W x r, ig μ (hp W) → pm x = some r → iC false P f (first.toList ++ (av x ++ caps.toList)) W (a r)
theorem qv.form {α β : Type} {P : Program} {fv : Value} {μ : gT} {av : α → List Value} {c : β → Value} {pm : α → Option β} (h : qv P fv μ av c pm) : ∃ f a b, fv = .func f a b := let ⟨f, a, b, h, _⟩ := h; ⟨_, a, b, h⟩
section
variable {P : Program} {W : World} {E : Nat → Value} {d : Option Nat} {ty : TypeId} {pos : String} {af : Array Edge} {g : Option (Nat × Bool)} {F : Nat → Prop} {w : World} {μ μ0 : gT} {L : List (Nat × Obj)}
theorem qv.mono {α β : Type} {fv : Value} {av : α → List Value} {a : β → Value} {pm : α → Option β} (h : qv P fv μ av a pm) (d : ig μ μ0) : qv P fv μ0 av a pm := by
 obtain ⟨f, first, caps, h1, b, c⟩ := h
 exact ⟨f, first, caps, h1, b, fun W x r h => c W x r (d.trans h)⟩
theorem vw {α β : Type} {K : Value → World → Prop} {fv : Value} {av : α → List Value} {i : β → Value} {pm : α → Option β} {b : Operand} {ax : Array Operand} {ats : Array TypeId} (x : α) {r : β} (a : ST false F w W μ L) (o : qv P fv μ0 av i pm) (q : ig μ0 μ) (p : gv E b = fv) (n : ax.map (gv E) ++ (#[] : Array Value) = (av x).toArray) (hm : pm x = some r) (h : ∀ W', ST false F w W' μ L → K (i r) W') : jx P E ⟨d, .call ⟨.value b, ax, ats⟩, ty, pos, af, g⟩ W K := by
 obtain ⟨f, first, caps, rfl, j, k⟩ := o
 have c : ax.map (gv E) = (av x).toArray := by simpa using n
 refine .inr (.inr ⟨f, (first.toList ++ (av x ++ caps.toList)).toArray, ?_, bG (k W x r (q.trans a.iG) hm) (fun _ _ ⟨l, m⟩ => ⟨_, l, h _ (a.Bz m)⟩)⟩)
 show (do let d ← resolve (gv E) ⟨.value b, ax, ats⟩ ty; invoke d.target d.args : Sem Next).run P W = _
 simp only [resolve, p, Deferred.ofValue, aQ, bA, aH, invoke, c, j]
 congr 2
 simp
end
end Go.Proofs.YtbnbdigcbldfhaaGreat
namespace Go.Proofs.YtbnbdigcbldfhaaGreat
open Go.RowKit
variable {dd : Bool}
def uW (A : List (Nat × Obj)) : gT := fun b => (A.find? (fun p => p.1 == b)).map (·.2)
theorem pt {A : List (Nat × Obj)} {W : World} (h : ∀ b o, (b, o) ∈ A → W.heap[b]? = some o) : ∀ b o, uW A b = some o → W.heap[b]? = some o := fun b o a => by
 unfold uW at a
 cases c : A.find? (fun p => p.1 == b) with
 | none => rw [c] at a; cases a
 | some p =>
  rw [c] at a
  cases a
  have h1 := List.mem_of_find?_eq_some c
  have d := List.find?_some c
  simp at d
  subst d
  exact h _ _ h1
theorem At.of {M : gT} {b : Nat} {cs : Array Value} {T : TypeId} {fr : Nat × Nat} (h : M b = some (.cells cs T fr)) (a : List Value) (d : cs.toList = a) : At M (.pointer (some ⟨b, 0, none⟩)) a :=
 ⟨b, 0, cs, T, fr, rfl, h, fun j y c => by subst d; simpa using c⟩
section
variable {F : Nat → Prop} {w W W' : World} {μ μ' : gT} {L L0 L1 L2 : List (Nat × Obj)}
theorem ST.Ed (h : ST dd F w W μ L) (a : L.Perm (L0 ++ L2)) : ∀ b o, (b, o) ∈ L2 → oW W L0 b = some o := fun b o c => by
 have h1 := (h.perm a).at_ (bB _ c)
 unfold oW
 rw [al (ya (h.perm a).nd c)]
 exact h1
theorem ST.held (h : ST dd F w W μ L) (a : L.Perm (L0 ++ L2)) : vd L0 W := fun b o c => ((h.perm a).box b o (aS _ c)).1
theorem ST.Dd (h : ST dd F w W μ L) (a : L.Perm (L0 ++ L2)) : (L0.map (·.1)).Nodup := by
 have := (h.perm a).nd
 rw [aP] at this
 exact (aF.1 this).1
theorem ST.C6 (h : ST dd F w W μ L) (a : L.Perm (L0 ++ L2)) : ig μ (oW W L0) := (h.perm a).D2 (fun _ hp => aS _ hp)
end
section
variable {P : Program} {E : Nat → Value} {W : World} {d : Option Nat} {ty : TypeId} {pos : String} {af : Array Edge} {g : Option (Nat × Bool)}
 {F : Nat → Prop} {w : World} {μ : gT} {L : List (Nat × Obj)}
theorem Em {K : Value → World → Prop} {K' : Value → List (Nat × Obj) → World → Prop} {f : FuncId} {fv : Operand} {ax : Array Operand} {ats : Array TypeId} {caps : Array Value} {args : List Value} (L0 L2 : List (Nat × Obj)) (a : ST dd F w W μ L) (c : L.Perm (L0 ++ L2)) (n : gv E fv = .func (.func f) #[] caps) (he : ∀ args w, (callFunc f args).run P w = .ok (.enter f args) w) (l : ax.map (gv E) ++ (#[] : Array Value) = args.toArray) (m : vd L0 W → (L0.map (·.1)).Nodup → ig μ (oW W L0) → (∀ b o, (b, o) ∈ L2 → oW W L0 b = some o) → ir dd P f (args ++ caps.toList) W L0 K') (h : ∀ W' v μ' L1, ST dd F w W' μ' (L1 ++ L2) → ig μ μ' → Lo F w μ μ' → (∀ b, W.heap.size ≤ b → ∀ o, oW W' L1 b = some o → μ' b = some o) → K' v L1 W' → K v W') : jx P E ⟨d, .call ⟨.value fv, ax, ats⟩, ty, pos, af, g⟩ W K := by
 have i : ax.map (gv E) = args.toArray := by simpa using l
 refine xY (args := (args ++ caps.toList).toArray) n he (by rw [i]; simp) (bG (m (a.held c) (a.Dd c) (a.C6 c) (a.Ed c)) (fun _ W' ⟨v, L1, h1, j, k⟩ => ⟨v, h1, h W' v _ L1 ((a.perm c).back j) ((a.perm c).vj W' L1) ((a.perm c).wF W' L1) ?_ k⟩))
 intro b q o p
 unfold sK
 rw [al (by omega)]
 exact p
theorem Sl.lift {α : Type} {enc : α → List Value} {k : Nat} {M μ' : gT} {B : Nat} {v : Value} {l : List α} (h : Sl (Pl enc) k M v l) (p : Fr B v) (n : ∀ b, B ≤ b → ∀ o, M b = some o → μ' b = some o) : Sl (Pl enc) k μ' v l := by
 obtain ⟨A, c, h1, d, g, i⟩ := h
 refine ⟨A, c, h1, d, g, fun q => ?_⟩
 obtain ⟨b, off, cs, T, fr, a, j, m⟩ := i q
 exact ⟨b, off, cs, T, fr, a, n b (p b (by rw [h1, a]; rfl)) _ j, m⟩
theorem wy {t : TypeId} (dd : Nat) {s u : Array TypeId} {b : Bool} (d : P.underlying t = some (.func s u b)) (f : Fn) (a c : Array Value) (W : World) : (Op.equalIn (dd + 1) t (.func f a c) .nilFunc).run P W = .ok false W := by
 simp [Op.equalIn, aq d]
theorem Ak {c m : TypeId} {x y : Operand} {f : Fn} {a b : Array Value} {s u : Array TypeId} {h : Bool} (j : P.underlying c = some (.func s u h)) (k : gv E x = .func f a b) (l : gv E y = .nilFunc) :
  iB P E ⟨d, .binOp .eql c x y m, ty, pos, af, g⟩ W (.bool false) W := by
 show (do let r ← (do eqGuard .eql c x y (gv E x) (gv E y); binOp .eql c (gv E x) (gv E y)); pure (.value r) : Sem Next).run P W = _
 rw [k, l]
 have i := wy 9999 j f a b W
 simp [eqGuard, binOp, Op.equal, show Op.maxDepth = 9999 + 1 from rfl, i]
end
def iW {κ β : Type} (beq : κ → κ → Bool) (l : List (κ × β)) (k : κ) (z : β) : β := (gQ beq l k).getD z
section
variable {P : Program} {W : World} {κ β : Type} {kt : TypeId} {kenc : κ → Value} {beq : κ → κ → Bool} {vf : β → Value} {E : Nat → Value} {d : Option Nat} {ty : TypeId} {pos : String} {af : Array Edge} {g : Option (Nat × Bool)} {F : Nat → Prop} {w : World} {μ : gT} {L R : List (Nat × Obj)} {v : Value} {left : List (κ × β)}
theorem oB {t e : TypeId} {m x : Operand} {a : Value} {l : List (κ × β)} {k : κ} {z : β} (K : jI P kt kenc beq) (c : P.underlying t = some (.map kt e)) (j : ∀ w, (zeroValue e).run P w = .ok (vf z) w) (hm : gv E m = a) (i : gv E x = kenc k) (b : lz kenc vf (hp W) a l) :
  iB P E ⟨d, .lookup t m x false, ty, pos, af, g⟩ W (vf (iW beq l k z)) W := by
 have := zr (d := d) (ty := ty) (pos := pos) (af := af) (g := g) K c j hm i b
 rw [iW]
 cases h : gQ beq l k with
 | none => rw [h] at this; exact this
 | some y => rw [h] at this; exact this
theorem uo {t e : TypeId} {m x : Operand} {q : Value} {l : List (κ × β)} {k : κ} {z : β} (K : jI P kt kenc beq) (n : P.underlying t = some (.map kt e)) (b : ∀ w, (zeroValue e).run P w = .ok (vf z) w) (hm : gv E m = q) (v : gv E x = kenc k) (s : lz kenc vf (hp W) q l) :
  iB P E ⟨d, .lookup t m x true, ty, pos, af, g⟩ W (.tuple #[vf (iW beq l k z), .bool (gQ beq l k).isSome]) W := by
 show (do pure (.value (← Instr.lookup t (gv E m) (gv E x) true)) : Sem Next).run P W = _
 rw [hm, v]
 rcases s with ⟨rfl, rfl⟩ | ⟨o, es, clock, rfl, u, c⟩
 ·have := K.find k [] [] rfl W
  simp [Instr.lookup, aq n, K.check, this, b W, gQ, iW]
 ·have a : W.heap[o]? = some (.map es clock) := u
  have r : (getObj o : Sem Obj).run P W = .ok (.map es clock) W := by simp [getObj, Sem.run, a]
  have h := K.find k _ _ c.keys W
  rw [c.get k] at h
  simp only [Instr.lookup, aQ, aq n, aH, r, bA, K.check, h, iW, pq]
  cases y : l.findIdx? (fun p => beq k p.1) with
  | none => simp [b W]
  | some i =>
   cases j : l[i]? with
   | none => simp [j, b W]
   | some p => simp [j]
theorem gV.one {a : Value} {l : List (κ × β)} (h : gV kenc vf a l R) : a.oneCell' = true := by obtain ⟨m, es, clock, rfl, _⟩ := h; rfl
theorem gV.form {a : Value} {l : List (κ × β)} (h : gV kenc vf a l R) : ∃ m, a = .map (some m) := by obtain ⟨m, es, clock, rfl, _⟩ := h; exact ⟨m, rfl⟩
theorem gV.nd {a : Value} {l : List (κ × β)} (h : gV kenc vf a l R) : (R.map (·.1)).Nodup := by obtain ⟨m, es, clock, rfl, rfl, _⟩ := h; simp
theorem D7 {y : Value → World → Prop} {M : gT} (X : List (Nat × Obj)) {Y : List (Nat × Obj)} {x : Operand} (j : ST dd F w W μ (X ++ (R ++ Y))) (hW : ∀ b o, M b = some o → W.heap[b]? = some o) (h : wP kenc vf M v left R) (hx : gv E x = v) (k : left = [] → y (.tuple #[.bool false]) W) (q : ∀ W' R' p i, left.Perm (p :: i) → ST dd F w W' μ (X ++ (R' ++ Y)) → uS kenc vf M v i R' p → y (.tuple #[.bool true, kenc p.1, vf p.2]) W') :
  jx P E ⟨d, .next x false, ty, pos, af, g⟩ W y := by
 have Q : ∀ T W', (Instr.next v false ty).run P W = .ok T W' → (execOp (gv E) ⟨d, .next x false, ty, pos, af, g⟩).run P W = .ok (.value T) W' := by
  intro T W' hv
  show (do pure (.value (← Instr.next (gv E x) false ty)) : Sem Next).run P W = _
  rw [hx]; simp [hv]
 obtain ⟨it, rfl, ⟨rfl, a, s, c, rfl⟩ | ⟨m, es, clock, seen, G, l, U, K, rfl, h4, t⟩⟩ := h
 ·have O := (j.box it (.mapIter none a s c) (by simp)).1
  refine .inl ⟨.tuple #[.bool false], W, Q _ _ ?_, k rfl⟩
  simp only [Instr.next, getObj, aQ, Sem.run, O, Result.andThen]
  rfl
 ·have O := (j.box it (.mapIter (some m) clock seen G) (by simp)).1
  rcases run_next_at (P := P) W ty it m clock G seen es clock O (hW _ _ U) K.lt h4 with ⟨u, L⟩ | ⟨e, u, w1, L, Z⟩
  ·refine .inl ⟨_, W, Q _ _ L, k ?_⟩
   have := aw List.length t
   simp [u] at this
   exact bl.1 this.symm
  ·obtain ⟨A, B, hA, hB⟩ := AE K seen u
   rw [hA] at t
   have hl : ∃ LA p LB, left = LA ++ p :: LB ∧ A.map (fun e => (e.key, e.val)) = LA.map (fun p => (kenc p.1, vf p.2)) ∧ (e.key, e.val) = (kenc p.1, vf p.2) ∧ B.map (fun e => (e.key, e.val)) = LB.map (fun p => (kenc p.1, vf p.2)) := by
    rw [aP, aN] at t
    obtain ⟨LA, LB', e1, I, n⟩ := List.map_eq_append_iff.1 t.symm
    obtain ⟨p, LB, J, e5, e6⟩ := List.map_eq_cons_iff.1 n
    exact ⟨LA, p, LB, by rw [e1, J], I.symm, e5.symm, e6.symm⟩
   obtain ⟨LA, p, LB, rfl, I, n, J⟩ := hl
   have he : e ∈ es.toList := by
    have : e ∈ (leftOf es seen).toList := u
    simp only [leftOf, dS] at this
    exact (cx.1 this).1
   simp only [eA] at n
   rw [n.1, n.2] at Z
   have r : ST dd F w w1 μ (X ++ ([(it, .mapIter (some m) clock seen G)] ++ Y)) := by
    rcases L with rfl | rfl
    ·exact j
    ·exact j.drew
   refine .inl ⟨_, _, Q _ _ Z, q _ [(it, _)] p (LA ++ LB) cJ (ST.setBlock (A := X) r _) ⟨it, m, es, clock, seen, l, e, rfl, U, K, rfl, he, n.1, n.2, ?_⟩⟩
   rw [hB, aP, I, J, aP]
theorem CL {M : gT} {x : Operand} {p : κ × β} (hH : ∀ q, q ∈ R → W.heap[q.1]? = some q.2) (hm : ∀ b o, M b = some o → W.heap[b]? = some o) (h : uS kenc vf M v left R p) (a : gv E x = v) :
  iB P E ⟨d, .entry x, ty, pos, af, g⟩ W (.tuple #[kenc p.1, vf p.2]) W := Ef (μ := M) hH hm h a
end
def lI {α : Type} (l : List α) (i : Nat) (z : α) : List α := l.take i ++ List.replicate (l.length - i) z
theorem oN {α : Type} (l : List α) (i : Nat) (z : α) (h : i ≤ l.length) : (lI l i z).length = l.length := by simp [lI]; omega
theorem wk {α : Type} (l : List α) (i : Nat) (z : α) (h : i ≤ l.length) : (lI l i z).take i = l.take i := by
 simp only [lI]
 rw [dq, bR (by simp; omega)]
 simp; omega
end Go.Proofs.YtbnbdigcbldfhaaGreat
namespace Go.Proofs.YtbnbdigcbldfhaaGreat
open Go.RowKit
theorem yA {P : Program} {cs : Array Value} {b : Bool} {n : Nat} {W : World} : ∀ (l : List Field),
  (∀ f ∈ l, f.name ≠ "_" → ∃ v, (part f.type cs f.offset).run P W = .ok v W ∧ (Instr.checkKey b n f.type v).run P W = .ok () W) →
  ((forIn l PUnit.unit fun f (_ : PUnit) => do
   if f.name ≠ "_" then Instr.checkKey b n f.type (← part f.type cs f.offset)
   pure (ForInStep.yield PUnit.unit)) : Sem PUnit).run P W = .ok PUnit.unit W
 | [], _ => by simp
 | f :: l, h => by
  have ih := yA l (fun f d => h f (cL _ d))
  simp only [List.forIn_cons, aQ]
  by_cases a : f.name ≠ "_"
  ·obtain ⟨v, h1, c⟩ := h f (by simp) a
   simp only [ar a, aQ, h1, aH, c, bA]
   exact ih
  ·simp only [al a, aQ, bA, aH]
   exact ih
theorem qx {P : Program} {kt : TypeId} {fs : Array Field} {l : List Field} {cs : Array Value} {b : Bool} {n : Nat} {W : World} (c : P.underlying kt = some (.struct fs)) (a : fs.toList = l) (h : ∀ f ∈ l, f.name ≠ "_" → ∃ v, (part f.type cs f.offset).run P W = .ok v W ∧ (Instr.checkKey b n f.type v).run P W = .ok () W) : (Instr.checkKey b (n + 1) kt (.agg cs)).run P W = .ok () W := by
 obtain ⟨fs⟩ := fs
 subst a
 simp only [Instr.checkKey, aQ, aq c, aH, List.forIn_toArray]
 have := yA (P := P) (cs := cs) (b := b) (n := n) (W := W) fs h
 simp only [aQ] at this
 first | rw [this]; rfl | simpa using this
variable {dd : Bool}
def nY (b : Bool) : Option Unit := if b = true then some () else none
theorem zu {b : Bool} {u : Unit} (h : nY b = some u) : b = true := by
 unfold nY at h; split at h
 ·assumption
 ·cases h
theorem pZ {a c : Int} {u : Unit} (h : nY (decide (0 ≤ a) && decide (a ≤ c)) = some u) : 0 ≤ a := by have := zu h; simp at this; exact this.1
theorem pW {a c : Int} {u : Unit} (h : nY (decide (0 ≤ a) && decide (a ≤ c)) = some u) : a ≤ c := by have := zu h; simp at this; exact this.2
def xB (k : Nat) (v : Value) (i : Nat) (u : Value) : Prop := ∃ A n c A' a, v = .slice A n c ∧ u = .slice A' (n - i) a ∧ i ≤ n ∧ (i < n → ∃ b o, A = some ⟨b, o, none⟩ ∧ A' = some ⟨b, o + i * k, none⟩)
section
variable {P : Program} {E : Nat → Value} {W : World} {d : Option Nat} {ty : TypeId} {pos : String} {af : Array Edge} {g : Option (Nat × Bool)}
 {F : Nat → Prop} {w : World} {μ : gT} {L : List (Nat × Obj)} {α : Type} {e' : TypeId} {enc : α → List Value} {k : Nat} {v : Value} {l : List α} {R : List (Nat × Obj)}
theorem pQ {t e : TypeId} {x a : Operand} {r : IntKind} {i : Int} (j : P.underlying t = some (.slice e)) (he : ∀ w, (sizeOf e).run P w = .ok k w) (m : gv E x = v) (b : gv E a = .int r i) (h : gI e' enc k v l R) (o : 0 ≤ i) (c : i ≤ l.length) :
  ∃ u, xB k v i.toNat u ∧ ∀ W, iB P E ⟨d, .slice t x (some a) none none, ty, pos, af, g⟩ W u W := by
 rcases h with ⟨rfl, rfl, rfl⟩ | ⟨g', cap, n, rfl, rfl, h1, s, y, A⟩
 ·have : i = 0 := by simp at c; omega
  subst this
  refine ⟨.slice none 0 0, ⟨none, 0, 0, none, 0, rfl, rfl, aJ _, fun h => absurd h (by simp)⟩, fun W => ?_⟩
  show (do pure (.value (← Instr.sliceAt t (gv E x) (some (gv E a)) none none)) : Sem Next).run P W = _
  rw [m, b]
  simp [Instr.sliceAt, Instr.slice, Instr.sliceBounds, Instr.sliceBound, asIntOf, aq j, he W]
 ·refine ⟨.slice (some (if cap = i.toNat then ⟨g', 0, none⟩ else (Addr.add ⟨g', 0, none⟩ (i.toNat * k)))) (l.length - i.toNat) (cap - i.toNat), ⟨_, _, _, _, _, rfl, rfl, by omega, fun q => ⟨g', 0, rfl, ?_⟩⟩, fun W => ?_⟩
  ·rw [al (by omega)]; simp [cg]
  ·show (do pure (.value (← Instr.sliceAt t (gv E x) (some (gv E a)) none none)) : Sem Next).run P W = _
   rw [m, b]
   have p : 0 ≤ i ∧ i ≤ (l.length : Int) := ⟨o, c⟩
   simp [Instr.sliceAt, Instr.slice, Instr.sliceBounds, Instr.sliceBound, asIntOf, aq j, he W, p]
   split <;> rfl
theorem qg {i j : Nat} {x0 : α} (h : (l.drop i)[j]? = some x0) : l[i + j]? = some x0 := by rwa [cj] at h
theorem yu {t e : TypeId} {x : Operand} {u : Value} {i : Nat} (j : P.underlying t = some (.slice e)) (m : gv E x = u) (hu : xB k v i u) (h : gI e' enc k v l R) : iB P E ⟨d, .call ⟨.builtin .len, #[x], #[t]⟩, ty, pos, af, g⟩ W (.int .i64 ((l.length - i : Nat) : Int)) W := by
 obtain ⟨A, n, c, A', o, h1, b, p, _⟩ := hu
 subst b
 have : n = l.length := by
  rcases h with ⟨rfl, rfl, rfl⟩ | ⟨g', cap, a, rfl, rfl, _⟩
  ·cases h1; rfl
  ·cases h1; rfl
 subst this
 exact vP j m
theorem pb {t e : TypeId} {x m : Operand} {O : IntKind} {i : Int} {x0 : α} {u : Value} {o : Nat} (L : P.underlying t = some (.slice e)) (he : ∀ w, (sizeOf e).run P w = .ok k w) (M : gv E x = u) (J : gv E m = .int O i) (h : gI e' enc k v l R) (hu : xB k v o u) (y : 0 ≤ i) (K : (l.drop o)[i.toNat]? = some x0) :
  ∃ p, tE R k p (o + i.toNat) ∧ ∀ W, iB P E ⟨d, .indexAddr t x m, ty, pos, af, g⟩ W p W := by
 have a := qg K
 have j : o + i.toNat < l.length := (aC.1 a).1
 rcases h with ⟨rfl, rfl, rfl⟩ | ⟨g', cap, q, rfl, rfl, h1, T, U, Y⟩
 ·simp at j
 obtain ⟨A, n, c, A', Q, r, rfl, Z, G⟩ := hu
 cases r
 obtain ⟨b, oo, s, rfl⟩ := G (by omega)
 cases s
 refine ⟨.pointer (some ⟨g', (o + i.toNat) * k, none⟩), ⟨_, _, rfl, rfl⟩, fun W => ?_⟩
 show (do pure (.value (← Instr.indexAt t (gv E x) (gv E m))) : Sem Next).run P W = _
 rw [M, J]
 have I : 0 ≤ i ∧ i < ((l.length - o : Nat) : Int) := ⟨y, by omega⟩
 simp [Instr.indexAt, asIntOf, aq L, he W, I, cg, aZ]
theorem xZ (a : List Value) (m : Nat) : (Builtin.zeroCells a.toArray m).toList = (List.replicate m a).flatten := by
 unfold Builtin.zeroCells
 simp only [Array.toList_map, Array.toList_range, cr]
 rcases cy a.length with b | b
 ·have : a = [] := bl.1 b
  subst this
  simp
 apply cC
 intro q
 by_cases d : q < m * a.length
 ·have h1 : q / a.length < m := (Nat.div_lt_iff_lt_mul b).2 d
  have c : q % a.length < a.length := Nat.mod_lt _ b
  have := qQ (enc := fun _ : Unit => a) (fun _ => rfl) (List.replicate m ()) (q / a.length) () (by simp [h1]) (q % a.length) a[q % a.length] (by simp [c])
  rw [Nat.div_add_mod' q a.length] at this
  rw [List.map_replicate] at this
  rw [this]
  simp [d, c]
 ·rw [cE (by simp; omega), cE (by simp; omega)]
theorem Az {K : Value → World → Prop} (z : α) (X : List (Nat × Obj)) {Y : List (Nat × Obj)} {t e : TypeId} {x : Operand} {u U : Value} {i : Nat} (p : ST dd F w W μ (X ++ (R ++ Y))) (h : gI e' enc k v l R) (hk : ∀ x, (enc x).length = k) (h1 : ∀ x, ∀ u ∈ enc x, u.oneCell' = true) (M : P.underlying t = some (.slice e)) (hz : ∀ w, (zeroValue e).run P w = .ok U w) (hu : xB k v i u) (hc : U.cells = (enc z).toArray) (hx : gv E x = u) (J : ∀ W' R', ST dd F w W' μ (X ++ (R' ++ Y)) → gI e' enc k v (lI l i z) R' → K (.tuple #[]) W') : jx P E ⟨d, .call ⟨.builtin .clear, #[x], #[t]⟩, ty, pos, af, g⟩ W K := by
 have j : ∀ (W' : World), (Builtin.clear_ #[t] ty #[u]).run P W = .ok (.tuple #[]) W' → (execOp (gv E) ⟨d, .call ⟨.builtin .clear, #[x], #[t]⟩, ty, pos, af, g⟩).run P W = .ok (.value (.tuple #[])) W' := by
  intro W' hV
  show (do let d ← resolve (gv E) ⟨.builtin .clear, #[x], #[t]⟩ ty; invoke d.target d.args : Sem Next).run P W = _
  simp [resolve, invoke, builtin, hx, hV]
 obtain ⟨A, n, c, A', c', Z, rfl, s, h8⟩ := hu
 rcases h with ⟨rfl, rfl, rfl⟩ | ⟨g', cap, a, rfl, rfl, T, q2, G, q4⟩
 ·cases Z
  refine .inl ⟨_, W, j W ?_, J W [] p (by simpa [lI] using gI.nil e' enc k)⟩
  simp only [Builtin.clear_, Nat.zero_sub]
  cases A' <;> simp [aq M]
 ·cases Z
  by_cases hi : i < l.length
  ·obtain ⟨b, o, e2, rfl⟩ := h8 hi
   cases e2
   have Q : ∀ m, (Builtin.zeroCells U.cells m).toList = (List.replicate m (enc z)).flatten := by
    intro m
    rw [hc]; exact xZ _ _
   have hb := (p.box g' (.cells a e' (0, 0)) (by simp)).1
   have hle : i * k + (l.length - i) * k = l.length * k := by rw [← aZ]; congr 1; omega
   have hlen : l.length * k ≤ c * k := aW _ T
   have q : ((List.replicate (l.length - i) (enc z)).flatten).length = (l.length - i) * k := by simp [hk]
   have r : ∀ v ∈ (List.replicate (l.length - i) (enc z)).flatten, v.oneCell' = true := by
    intro v y
    obtain ⟨ys, O, y⟩ := fO.1 y
    rw [(List.mem_replicate.1 O).2] at y
    exact h1 z v y
   have hs := fq (P := P) g' (i * k) e' ((List.replicate (l.length - i) (enc z)).flatten) 0 a W hb (by rw [q, G]; omega) r
   rw [Nat.add_zero, q, hle] at hs
   refine .inl ⟨_, W.setRow g' (a.toList.take (i * k) ++ (List.replicate (l.length - i) (enc z)).flatten ++ a.toList.drop (l.length * k)).toArray, j _ ?_, J _ [(g', .cells (a.toList.take (i * k) ++ (List.replicate (l.length - i) (enc z)).flatten ++ a.toList.drop (l.length * k)).toArray e' (0, 0))] (p.store _) (.inr ⟨g', c, _, by rw [oN _ _ _ s], rfl, by rw [oN _ _ _ s]; exact T, q2, ?_, ?_⟩)⟩
   ·have hn : l.length - i = (l.length - i - 1) + 1 := by omega
    simp only [Builtin.clear_]
    rw [hn]
    simp only [aq M, aQ, aH, dy, ec, hz, dI]
    rw [← hn, Q, hs]
    simp
   ·have I : a.toList.length = c * k := by simpa using G
    rw [cr, an, an, bO, et, q, I, bW (by omega)]
    omega
   ·rw [oN _ _ _ s, lI, aP, dm, vv hk l i s, ← q4, ef, bW (by omega), List.map_replicate]
    have I : a.toList.length = c * k := by simpa using G
    have e3 : (a.toList.take (i * k) ++ (List.replicate (l.length - i) (enc z)).flatten).length = l.length * k := by rw [an, bO, q, I, bW (by omega)]; omega
    show List.take (l.length * k) (a.toList.take (i * k) ++ (List.replicate (l.length - i) (enc z)).flatten ++ a.toList.drop (l.length * k)) = _
    rw [dq, bR (by rw [e3]; exact aJ _), e3, Nat.sub_self]
    simp
  ·have L : i = l.length := by omega
   subst L
   refine .inl ⟨_, W, j W ?_, J W _ p ?_⟩
   ·simp only [Builtin.clear_, Nat.sub_self]
    cases A' <;> simp [aq M]
   ·simp only [lI, List.take_length, Nat.sub_self, List.replicate_zero, aX]
    exact .inr ⟨g', c, a, rfl, rfl, T, q2, G, q4⟩
end
end Go.Proofs.YtbnbdigcbldfhaaGreat
namespace Go.Proofs.YtbnbdigcbldfhaaGreat
open Go.RowKit
variable {dd : Bool}
section
variable {P : Program} {E : Nat → Value} {W : World} {d : Option Nat} {ty : TypeId} {pos : String} {af : Array Edge} {g : Option (Nat × Bool)}
 {F : Nat → Prop} {w : World} {μ : gT} {L : List (Nat × Obj)}
theorem Ba {K : Value → World → Prop} {f : FuncId} {fv : Operand} {ax : Array Operand} {ats : Array TypeId} {args : List Value} {v : Value} (c : gv E fv = .func (.func f) #[] #[]) (b : ax.map (gv E) ++ (#[] : Array Value) = args.toArray) (i : (callFunc f args.toArray).run P W = .ok (.value v) W) (h : K v W) : jx P E ⟨d, .call ⟨.value fv, ax, ats⟩, ty, pos, af, g⟩ W K := by
 have a : ax.map (gv E) = args.toArray := by simpa using b
 refine .inl ⟨v, W, ?_, h⟩
 show (do let d ← resolve (gv E) ⟨.value fv, ax, ats⟩ ty; invoke d.target d.args : Sem Next).run P W = _
 simp only [resolve, c, Deferred.ofValue, aQ, bA, aH, invoke]
 rw [a]
 simpa using i
def pF (s : ByteArray) (c : Int) : Int := Lib.indexByte s.data.toList c.toNat.toUInt8
def nP (a b : ByteArray) : Int := Lib.compareBytes a.data.toList b.data.toList
def pH (l : List Int) : List UInt8 := l.map fun x => x.toNat.toUInt8
def rr (a b : List Int) : Int := Lib.compareBytes (pH a) (pH b)
theorem xI {f : FuncId} {fn : Func} (d : P.funcs[f]? = some fn) (a : (fn.name == "runtime.NumGoroutine") = false) (b : fn.body.isNone = true) (g : Extern.findNext fn = none) (he : Extern.find fn = some Extern.BytealgIndexByte.indexByte) (s : ByteArray) (c : Int) (w : World) :
  (callFunc f [Value.string s, .int .u8 c].toArray).run P w = .ok (.value (.int .i64 (pF s c))) w := by
 rw [dT d a b g he]
 rw [Lib.run_indexByteString]
 rfl
theorem CH {f : FuncId} {fn : Func} (g : P.funcs[f]? = some fn) (c : (fn.name == "runtime.NumGoroutine") = false) (d : fn.body.isNone = true) (h : Extern.findNext fn = none) (he : Extern.find fn = some Extern.BytealgCompare.compare) (a b : ByteArray) (w : World) :
  (callFunc f [Value.string a, .string b].toArray).run P w = .ok (.value (.int .i64 (nP a b))) w := by
 rw [dT g c d h he]
 rw [Lib.run_compareString]
 rfl
theorem uK {v : Value} {l : List Int} (h : Sl (Pl (iV .u8)) 1 (hp W) v l) : (Extern.Bytes.bytesOf v).run P W = .ok ⟨(pH l).toArray⟩ W := by
 obtain ⟨A, c, rfl, o, p, i⟩ := h
 rcases cy l.length with a | a
 ·have : l = [] := bl.1 a
  subst this
  cases A <;> simp [Extern.Bytes.bytesOf, Extern.Bytes.loadBytes, pH] <;> rfl
 ·obtain ⟨b, off, cs, T, fr, rfl, k, m⟩ := i a
  have := Lib.run_loadBytesX (P := P) W l ⟨b, off, none⟩ .empty (fun j x n => by
   obtain ⟨q, _, g, d⟩ := m j x n
   cases g
   rw [cg, eb W b (off + j) cs T fr k]
   have := d 0 (.int .u8 x) rfl
   simpa using this)
  simp only [Extern.Bytes.bytesOf]
  rw [this]
  congr 1
  apply fM
  show (#[] : Array UInt8) ++ _ = _
  simp [Lib.bytesOf, pH]
theorem C4 {f : FuncId} {fn : Func} (j : P.funcs[f]? = some fn) (c : (fn.name == "runtime.NumGoroutine") = false) (i : fn.body.isNone = true) (k : Extern.findNext fn = none) (he : Extern.find fn = some Extern.BytealgCompare.compare) {d g : Value} {a b : List Int} (h1 : Sl (Pl (iV .u8)) 1 (hp W) d a) (h : Sl (Pl (iV .u8)) 1 (hp W) g b) :
  (callFunc f [d, g].toArray).run P W = .ok (.value (.int .i64 (rr a b))) W := by
 rw [dT j c i k he]
 have : (Extern.BytealgCompare.compare [d, g].toArray).run P W = .ok (.int .i64 (rr a b)) W := by
  change Sem.run P (do pure (goInt (Extern.BytealgCompare.cmp (← Extern.Bytes.bytesOf d) (← Extern.Bytes.bytesOf g)))) W = _
  simp only [aQ, uK h1, uK h, bA, Result.andThen]
  rw [Lib.cmp_eq]
  rfl
 rw [this]
 rfl
theorem rf {fn : Fn} {caps : Array Operand} {cs : List Value} {v : Value} (a : caps.map (gv E) ++ (#[] : Array Value) = cs.toArray) (b : .func fn #[] cs.toArray = v) : iB P E ⟨d, .makeFunc fn #[] caps, ty, pos, af, g⟩ W v W := by
 have : caps.map (gv E) = cs.toArray := by simpa using a
 exact Bl (by rw [this]; simpa using b)
theorem ir.mono {f : FuncId} {args : List Value} {L0 : List (Nat × Obj)} {K K' : Value → List (Nat × Obj) → World → Prop} (h : ir dd P f args w L0 K) (hk : ∀ v L1 W', K v L1 W' → K' v L1 W') : ir dd P f args w L0 K' :=
 bG h (fun _ _ ⟨v, L1, h1, a, b⟩ => ⟨v, L1, h1, a, hk _ _ _ b⟩)
end
section
variable {α : Type}
def mx (cf : α × α → Option Int) (x y : α) : Bool := match cf (x, y) with
 | some c => decide (c < 0)
 | none => false
structure tR (cf : α × α → Option Int) (l : List α) : Prop where
 is : ∀ x ∈ l, ∀ y ∈ l, ∃ c, cf (x, y) = some c
 irrefl : ∀ x ∈ l, mx cf x x = false
 trans : ∀ x ∈ l, ∀ y ∈ l, ∀ z ∈ l, mx cf x y = true → mx cf y z = true → mx cf x z = true
 total : ∀ x ∈ l, ∀ y ∈ l, mx cf x y = false → mx cf y x = false → x = y
 short : l.length < 4611686018427387904
def lE (cf : α × α → Option Int) (l : List α) : List α := l.mergeSort fun x y => !mx cf y x
open Classical in
noncomputable def qy (cf : α × α → Option Int) (l : List α) : Option (List α) := if tR cf l then some (lE cf l) else none
theorem xA {cf : α × α → Option Int} {l r : List α} (h : qy cf l = some r) : tR cf l ∧ r = lE cf l := by
 unfold qy at h
 split at h
 ·rename_i a; cases h; exact ⟨a, rfl⟩
 ·cases h
theorem Ad {cf : α × α → Option Int} {l : List α} (h : tR cf l) : qy cf l = some (lE cf l) := by
 unfold qy; rw [ar h]
def iN (l : List ByteArray) : List ByteArray := l.mergeSort fun x y => !kL y x
def vQ (l : List ByteArray) : Option (List ByteArray) := if l.length < 4611686018427387904 then some (iN l) else none
end
end Go.Proofs.YtbnbdigcbldfhaaGreat
namespace Go.Proofs.YtbnbdigcbldfhaaGreat
open Go.RowKit
variable {dd : Bool}
def oA {κ γ : Type} (Q : Value → γ → List (Nat × Obj) → Prop) : List (κ × Value) → List (κ × γ) → List (Nat × Obj) → Prop
 | [], [], R => R = []
 | p :: a, q :: l, R => p.1 = q.1 ∧ ∃ R1 R2, R = R1 ++ R2 ∧ Q p.2 q.2 R1 ∧ oA Q a l R2
 | _, _, _ => False
def iY {κ γ : Type} (kenc : κ → Value) (Q : Value → γ → List (Nat × Obj) → Prop) (v : Value) (c : List (κ × Value)) (l : List (κ × γ)) (R : List (Nat × Obj)) : Prop :=
 ∃ a b, R = a ++ b ∧ gV kenc (fun x => x) v c a ∧ oA Q c l b
section
variable {κ γ : Type} {Q : Value → γ → List (Nat × Obj) → Prop} {beq : κ → κ → Bool} {kenc : κ → Value}
theorem oA.keys : ∀ {a : List (κ × Value)} {l : List (κ × γ)} {R : List (Nat × Obj)}, oA Q a l R → a.map (·.1) = l.map (·.1)
 | [], [], _, _ => rfl
 | [], _ :: _, _, h => h.elim
 | _ :: _, [], _, h => h.elim
 | p :: a, q :: l, R, h => by
  obtain ⟨h1, R1, R2, _, _, b⟩ := h
  simp [h1, oA.keys b]
theorem oA.find {a : List (κ × Value)} {l : List (κ × γ)} {R : List (Nat × Obj)} (h : oA Q a l R) (k : κ) : a.findIdx? (fun p => beq k p.1) = l.findIdx? (fun p => beq k p.1) := by
 have h1 : (a.map (·.1)).findIdx? (fun x => beq k x) = (l.map (·.1)).findIdx? (fun x => beq k x) := by rw [h.keys]
 rw [ei, ei] at h1
 exact h1
theorem oA.get : ∀ {c : List (κ × Value)} {l : List (κ × γ)} {R : List (Nat × Obj)}, oA Q c l R → ∀ (i : Nat) (k : κ) (x : γ), l[i]? = some (k, x) →
  ∃ v A R1 B, c[i]? = some (k, v) ∧ R = A ++ (R1 ++ B) ∧ Q v x R1 ∧ ∀ b v2 x2 R2, Q v2 x2 R2 → oA Q (c.set i (b, v2)) (l.set i (b, x2)) (A ++ (R2 ++ B))
 | [], [], _, _, i, k, x, a => by simp at a
 | [], _ :: _, _, h, _, _, _, _ => h.elim
 | _ :: _, [], _, h, _, _, _, _ => h.elim
 | p :: c, q :: l, R, h, 0, k, x, a => by
  obtain ⟨h1, R1, R2, rfl, d, g⟩ := h
  simp at a
  subst a
  refine ⟨p.2, [], R1, R2, by simp only [ec]; exact aw some (Prod.ext h1 rfl), rfl, d, fun b v2 x2 R2' j => ⟨rfl, R2', R2, rfl, j, g⟩⟩
 | p :: c, q :: l, R, h, i + 1, k, x, a => by
  obtain ⟨h1, R1, R2, rfl, d, g⟩ := h
  simp at a
  obtain ⟨v, A, R1', B, g1, rfl, g3, g4⟩ := oA.get g i k x a
  exact ⟨v, R1 ++ A, R1', B, by simpa using g1, by simp, g3, fun b v2 x2 R2' j => ⟨h1, R1, A ++ (R2' ++ B), by simp, d, g4 b v2 x2 R2' j⟩⟩
theorem oA.push : ∀ {b : List (κ × Value)} {l : List (κ × γ)} {R : List (Nat × Obj)}, oA Q b l R → ∀ (k : κ) {v : Value} {x : γ} {R1 : List (Nat × Obj)}, Q v x R1 → oA Q (b ++ [(k, v)]) (l ++ [(k, x)]) (R ++ R1)
 | [], [], _, h, k, v, x, R1, a => by
  have g : _ = [] := h
  subst g
  exact ⟨rfl, R1, [], by simp, a, rfl⟩
 | [], _ :: _, _, h, _, _, _, _, _ => h.elim
 | _ :: _, [], _, h, _, _, _, _, _ => h.elim
 | p :: b, q :: l, R, h, k, v, x, R1, a => by
  obtain ⟨h1, c, d, rfl, i, j⟩ := h
  exact ⟨h1, c, d ++ R1, by simp, i, oA.push j k a⟩
theorem iY.found {r : Value} {c : List (κ × Value)} {l : List (κ × γ)} {R : List (Nat × Obj)} (hk : ∀ {x y : κ}, beq x y = true → x = y) (h : iY kenc Q r c l R) {k : κ} {x : γ} (b : gQ beq l k = some x) :
  ∃ v A R1 B, gQ beq c k = some v ∧ R = A ++ (R1 ++ B) ∧ Q v x R1 ∧ (∀ x2 R2, Q v x2 R2 → iY kenc Q r c (iQ beq l k x2) (A ++ (R2 ++ B))) := by
 obtain ⟨o, w, rfl, s, q⟩ := h
 rw [pq] at b
 cases d : l.findIdx? (fun p => beq k p.1) with
 | none => rw [d] at b; cases b
 | some i =>
  rw [d] at b
  obtain ⟨p, hp, t⟩ := kQ d
  simp only [aa, hp, bJ, dz] at b
  subst b
  have n := hk t
  obtain ⟨v, A, R1, B, g1, rfl, g3, g4⟩ := q.get i p.1 p.2 hp
  have g : c.findIdx? (fun p => beq k p.1) = some i := by rw [q.find k, d]
  refine ⟨v, o ++ A, R1, B, by rw [pq, g]; simp [g1], by simp, g3, fun x2 R2 u => ⟨o, A ++ (R2 ++ B), by simp, s, ?_⟩⟩
  have a := g4 k v x2 R2 u
  have e : c.set i (k, v) = c := by
   apply cC
   intro j
   rw [da]
   split
   ·rename_i m
    subst m
    rw [g1, n]
    simp [(aC.1 g1).1]
   ·rfl
  rw [e] at a
  rw [iQ, d]
  exact a
theorem iY.BJ {g : Value} {c : List (κ × Value)} {l : List (κ × γ)} {R : List (Nat × Obj)} (h : iY kenc Q g c l R) {k : κ} (a : gQ beq l k = none) : gQ beq c k = none := by
 obtain ⟨j, m, rfl, n, d⟩ := h
 rw [pq] at a ⊢
 rw [d.find k]
 cases b : l.findIdx? (fun p => beq k p.1) with
 | none => rfl
 | some i =>
  rw [b] at a
  obtain ⟨p, hp, o⟩ := kQ b
  simp [hp] at a
def lW (beq : κ → κ → Bool) (a : List (κ × Value)) (k : κ) (z : Value) : Value := (gQ beq a k).getD z
variable {P : Program} {W : World} {kt : TypeId} {E : Nat → Value} {d : Option Nat} {ty : TypeId} {pos : String} {af : Array Edge} {g : Option (Nat × Bool)} {F : Nat → Prop} {w : World} {μ : gT} {L : List (Nat × Obj)}
theorem lg {t e : TypeId} {m x : Operand} {c z : Value} {a : List (κ × Value)} {l : List (κ × γ)} {R : List (Nat × Obj)} {k : κ} (K : jI P kt kenc beq) (q : P.underlying t = some (.map kt e)) (s : ∀ w, (zeroValue e).run P w = .ok z w) (hm : gv E m = c) (r : gv E x = kenc k) (n : iY kenc Q c a l R) (p : ∀ b o, (b, o) ∈ R → W.heap[b]? = some o) : iB P E ⟨d, .lookup t m x false, ty, pos, af, g⟩ W (lW beq a k z) W := by
 obtain ⟨u, v, rfl, i, y⟩ := n
 have j := zr (d := d) (ty := ty) (pos := pos) (af := af) (g := g) K q s hm r (i.at (μ := hp W) (fun b o h => p b o (aS _ h)))
 simpa [lW] using j
variable {κ2 β : Type} {kenc2 : κ2 → Value} {vf : β → Value} {beq2 : κ2 → κ2 → Bool} {kt2 : TypeId}
theorem iY.vG {i : Value} {c : List (κ × Value)} {l : List (κ × List (κ2 × β))} {R : List (Nat × Obj)} (hk : ∀ {x y : κ}, beq x y = true → x = y) (h : iY kenc (gV kenc2 vf) i c l R) (k : κ) {μ : gT} (d : ∀ b o, (b, o) ∈ R → μ b = some o) :
  lz kenc2 vf μ (lW beq c k (.map none)) ((gQ beq l k).getD []) := by
 cases a : gQ beq l k with
 | none => rw [lW, h.BJ a]; exact .inl ⟨rfl, rfl⟩
 | some x =>
  obtain ⟨v, A, R1, B, g1, rfl, g3, _⟩ := h.found hk a
  rw [lW, g1]
  exact g3.at (fun b o g => d b o (by simp [g]))
theorem iY.isNil {c : Value} {b : List (κ × Value)} {l : List (κ × List (κ2 × β))} {R : List (Nat × Obj)} (hk : ∀ {x y : κ}, beq x y = true → x = y) (h : iY kenc (gV kenc2 vf) c b l R) (k : κ) :
  ∃ r, lW beq b k (.map none) = .map r ∧ r.isNone = (gQ beq l k).isNone := by
 cases a : gQ beq l k with
 | none => rw [lW, h.BJ a]; exact ⟨none, rfl, rfl⟩
 | some x =>
  obtain ⟨v, A, R1, B, g1, rfl, g3, _⟩ := h.found hk a
  obtain ⟨m, es, clock, rfl, _⟩ := g3
  rw [lW, g1]
  exact ⟨_, rfl, rfl⟩
def wR {κ κ2 β : Type} (beq : κ → κ → Bool) (beq2 : κ2 → κ2 → Bool) (l : List (κ × List (κ2 × β))) (k : κ) (a : κ2) (x : β) : Option (List (κ × List (κ2 × β))) := (gQ beq l k).map fun b => iQ beq l k (iQ beq2 b a x)
def wV {κ γ : Type} (beq : κ → κ → Bool) (l : List (κ × γ)) (k : κ) (x : γ) : Option (List (κ × γ)) := if (gQ beq l k).isNone then some (iQ beq l k x) else none
theorem Cv {o : Value → World → Prop} (X : List (Nat × Obj)) {Y R : List (Nat × Obj)} {t e : TypeId} {m x y : Operand} {r : Value} {n : List (κ × Value)} {l q : List (κ × List (κ2 × β))} {k : κ} {p : κ2} {v : β} (hk : ∀ {x y : κ}, beq x y = true → x = y) (K : jI P kt2 kenc2 beq2) (I : P.underlying t = some (.map kt2 e)) (c : ST dd F w W μ (X ++ (R ++ Y))) (h : iY kenc (gV kenc2 vf) r n l R) (hm : gv E m = lW beq n k (.map none)) (J : gv E x = kenc2 p) (L : gv E y = vf v) (b : wR beq beq2 l k p v = some q) (G : ∀ W' R', ST dd F w W' μ (X ++ (R' ++ Y)) → iY kenc (gV kenc2 vf) r n q R' → o undef W') : jx P E ⟨d, .mapUpdate t m x y, ty, pos, af, g⟩ W o := by
 unfold wR at b
 cases i : gQ beq l k with
 | none => rw [i] at b; cases b
 | some M =>
  rw [i] at b
  cases b
  obtain ⟨u, A, R1, B, g1, rfl, g3, g4⟩ := h.found hk i
  have j : gv E m = u := by rw [hm, lW, g1]; rfl
  have a : ST dd F w W μ ((X ++ A) ++ (R1 ++ (B ++ Y))) := by simpa using c
  refine qZ (X ++ A) K I a g3 j J L (fun W' R' h1 s => G W' (A ++ (R' ++ B)) ?_ (g4 _ _ s))
  simpa using h1
theorem B8 {v : Value → World → Prop} (X : List (Nat × Obj)) {Y R R2 : List (Nat × Obj)} {t e : TypeId} {m x y : Operand} {s : Value} {r : List (κ × Value)} {l I : List (κ × γ)} {k : κ} {u : Value} {z : γ} (K : jI P kt kenc beq) (ht : P.underlying t = some (.map kt e)) (o : ST dd F w W μ (X ++ (R ++ (R2 ++ Y)))) (h : iY kenc Q s r l R) (hm : gv E m = s) (hx : gv E x = kenc k) (hy : gv E y = u) (Z : Q u z R2) (b : wV beq l k z = some I) (T : ∀ W' R', ST dd F w W' μ (X ++ (R' ++ Y)) → iY kenc Q s (iQ beq r k u) I R' → v undef W') : jx P E ⟨d, .mapUpdate t m x y, ty, pos, af, g⟩ W v := by
 unfold wV at b
 cases j : gQ beq l k with
 | some l2 => rw [j] at b; cases b
 | none =>
  rw [j] at b
  simp only [Option.isNone_none, bi, dz] at b
  subst b
  have U := h.BJ j
  obtain ⟨L, n, rfl, M, O⟩ := h
  have c : ST dd F w W μ (X ++ (L ++ (n ++ (R2 ++ Y)))) := by simpa using o
  refine qZ X K ht c M hm hx hy (fun W' R' g1 g2 => T W' (R' ++ (n ++ R2)) (by simpa using g1) ⟨R', n ++ R2, rfl, g2, ?_⟩)
  have A : ∀ {J : Type} (q : List (κ × J)) (y : J), gQ beq q k = none → iQ beq q k y = q ++ [(k, y)] := fun q y a => by
   rw [pq] at a
   rw [iQ]
   cases G : q.findIdx? (fun p => beq k p.1) with
   | none => rfl
   | some i =>
    obtain ⟨p, hp, _⟩ := kQ G
    rw [G] at a
    simp [hp] at a
  rw [A r u U, A l z j]
  exact O.push k Z
end
end Go.Proofs.YtbnbdigcbldfhaaGreat
namespace Go.Proofs.YtbnbdigcbldfhaaGreat
open Go.RowKit
variable {dd : Bool}
section
variable {κ γ : Type} {Q : Value → γ → List (Nat × Obj) → Prop} {beq : κ → κ → Bool} {kenc : κ → Value}
theorem ky {a : Type} {l : List (κ × a)} {k : κ} {i : Nat} (h : l.findIdx? (fun p => beq k p.1) = some i) (x : a) : iQ beq l k x = l.set i (k, x) := by rw [iQ, h]
theorem na {a : Type} {l : List (κ × a)} {k : κ} (h : l.findIdx? (fun p => beq k p.1) = none) (x : a) : iQ beq l k x = l ++ [(k, x)] := by rw [iQ, h]
theorem sP {a : Type} {l : List (κ × a)} {k : κ} (h : l.findIdx? (fun p => beq k p.1) = none) : gQ beq l k = none := by rw [pq, h]; rfl
theorem qw {a : Type} {l : List (κ × a)} {k : κ} {i : Nat} {p : κ × a} (h : l.findIdx? (fun p => beq k p.1) = some i) (hp : l[i]? = some p) : gQ beq l k = some p.2 := by rw [pq, h]; simp [hp]
def Bw (beq : κ → κ → Bool) (kenc : κ → Value) (Q : Value → γ → List (Nat × Obj) → Prop) (c : Value) (b : List (κ × Value)) (l : List (κ × γ)) (k : κ) (R : List (Nat × Obj)) : Prop :=
 ∃ a A B, R = a ++ (A ++ B) ∧ gV kenc (fun x => x) c b a ∧ ∀ v x R1, Q v x R1 → oA Q (iQ beq b k v) (iQ beq l k x) (A ++ (R1 ++ B))
theorem iY.open (hk : ∀ {x y : κ}, beq x y = true → x = y) {q z : Value} {x0 : γ} (j : Q z x0 []) {m : List (κ × Value)} {l : List (κ × γ)} {R : List (Nat × Obj)} (h : iY kenc Q q m l R) (k : κ) :
  ∃ R' R1, R.Perm (R' ++ R1) ∧ Q (lW beq m k z) ((gQ beq l k).getD x0) R1 ∧ Bw beq kenc Q q m l k R' := by
 obtain ⟨c, n, rfl, o, d⟩ := h
 have b := d.find (beq := beq) k
 cases a : l.findIdx? (fun p => beq k p.1) with
 | none =>
  rw [a] at b
  refine ⟨c ++ n, [], by simp, ?_, c, n, [], by simp, o, fun v x R1 g => ?_⟩
  ·rw [lW, sP a, sP b]; exact j
  ·rw [na a, na b]; simpa using d.push k g
 | some i =>
  rw [a] at b
  obtain ⟨p, hp, r⟩ := kQ a
  have s := hk r
  obtain ⟨v, A, R1, B, g1, rfl, g3, g4⟩ := d.get i p.1 p.2 hp
  refine ⟨c ++ (A ++ B), R1, ?_, ?_, c, A, B, rfl, o, fun v2 x2 R2 g => ?_⟩
  ·rw [ay, ay]
   refine aY _ (aY _ cH)
  ·rw [lW, qw a hp, qw b g1]; exact g3
  ·rw [ky a, ky b]; exact g4 k v2 x2 R2 g
variable {P : Program} {W : World} {kt : TypeId} {E : Nat → Value} {d : Option Nat} {ty : TypeId} {pos : String} {af : Array Edge} {g : Option (Nat × Bool)} {F : Nat → Prop} {w : World} {μ : gT} {L : List (Nat × Obj)}
theorem EY {i : Value → World → Prop} (X : List (Nat × Obj)) {Y R R1 : List (Nat × Obj)} {t e : TypeId} {m x y : Operand} {c : Value} {j : List (κ × Value)} {l : List (κ × γ)} {k : κ} {u : Value} {z : γ} (K : jI P kt kenc beq) (s : P.underlying t = some (.map kt e)) (b : ST dd F w W μ (X ++ (R ++ (R1 ++ Y)))) (h : Bw beq kenc Q c j l k R) (hm : gv E m = c) (v : gv E x = kenc k) (G : gv E y = u) (r : Q u z R1) (q : ∀ W' R', ST dd F w W' μ (X ++ (R' ++ Y)) → iY kenc Q c (iQ beq j k u) (iQ beq l k z) R' → i undef W') : jx P E ⟨d, .mapUpdate t m x y, ty, pos, af, g⟩ W i := by
 obtain ⟨n, A, B, rfl, o, p⟩ := h
 have a : ST dd F w W μ (X ++ (n ++ (A ++ (B ++ (R1 ++ Y))))) := by simpa using b
 refine qZ X K s a o hm v G (fun W' R' g1 g2 => q W' (R' ++ (A ++ (R1 ++ B))) ?_ ⟨R', A ++ (R1 ++ B), rfl, g2, p u z R1 r⟩)
 refine g1.perm ?_
 simp only [ay]
 refine aY _ (aY _ (aY _ ?_))
 rw [← ay, ← ay]
 exact ej _ cH
def y9 (beq : κ → κ → Bool) (kenc : κ → Value) (Q : Value → γ → List (Nat × Obj) → Prop) (b : Value) (l : List (κ × γ)) (k : κ) (st : Nat) (R : List (Nat × Obj)) : Prop :=
 ∃ m es clock a A B i e, b = .map (some m) ∧ R = (m, .map es clock) :: (A ++ B) ∧ my kenc (fun x => x) a es clock ∧ es[i]? = some e ∧ e.born = st ∧ a.findIdx? (fun p => beq k p.1) = some i ∧
  ∀ v x R1, Q v x R1 → oA Q (iQ beq a k v) (iQ beq l k x) (A ++ (R1 ++ B))
theorem uT {g : Type} (hk : ∀ x : κ, beq x x = true) (d : List (κ × g)) (k : κ) (a b : g) : iQ beq (iQ beq d k a) k b = iQ beq d k b := by
 cases c : d.findIdx? (fun p => beq k p.1) with
 | none =>
  have h1 : (d ++ [(k, a)]).findIdx? (fun p => beq k p.1) = some d.length := by
   rw [de, c]
   simp [cz, hk]
  rw [na c, na c, ky h1]
  simp
 | some i =>
  obtain ⟨p, hp, n⟩ := kQ c
  have h1 : (d.set i (k, a)).findIdx? (fun p => beq k p.1) = some i := by
   rw [bF] at c ⊢
   obtain ⟨h1, m, h⟩ := c
   refine ⟨by simpa using h1, by simp [hk], fun j l => ?_⟩
   rw [dU (by omega)]
   exact h j l
  rw [ky c, ky c, ky h1]
  simp
end
end Go.Proofs.YtbnbdigcbldfhaaGreat
namespace Go.Proofs.YtbnbdigcbldfhaaGreat
open Go.RowKit
variable {dd : Bool}
section
variable {κ γ : Type} {Q : Value → γ → List (Nat × Obj) → Prop} {beq : κ → κ → Bool} {kenc : κ → Value}
variable {P : Program} {W : World} {kt : TypeId} {E : Nat → Value} {d : Option Nat} {ty : TypeId} {pos : String} {af : Array Edge} {g : Option (Nat × Bool)} {F : Nat → Prop} {w : World} {μ : gT} {L : List (Nat × Obj)}
theorem qz {es : Array MapEntry} {i : Nat} {f b : MapEntry → MapEntry} (h : ∀ e, es[i]? = some e → f e = b e) : es.modify i f = es.modify i b := by
 apply Array.ext_getElem?
 intro j
 rw [cd, cd]
 split
 ·rename_i a
  subst a
  cases he : es[i]? with
  | none => rfl
  | some e => simp [h e he]
 ·rfl
theorem my.val {b : List (κ × Value)} {es : Array MapEntry} {clock : Nat} (h : my kenc (fun x => x) b es clock) {i : Nat} {e : MapEntry} (he : es[i]? = some e) : ∃ p, b[i]? = some p ∧ e.key = kenc p.1 ∧ e.val = p.2 := by
 have a := aw (fun q => q[i]?) h.re
 simp only [ch, bp, he, bJ] at a
 cases hp : b[i]? with
 | none => rw [hp] at a; cases a
 | some p =>
  rw [hp] at a
  simp only [bJ, dz, eA] at a
  exact ⟨p, rfl, a.1, a.2⟩
theorem Bd {Kk : Value → World → Prop} (X : List (Nat × Obj)) {Y R : List (Nat × Obj)} {t e : TypeId} {m x : Operand} {mv z : Value} {x0 : γ} {lv : List (κ × Value)} {l : List (κ × γ)} {k : κ} (hk : ∀ {x y : κ}, beq x y = true ↔ x = y) (K : jI P kt kenc beq) (ht : P.underlying t = some (.map kt e)) (hz : ∀ w, (zeroValue e).run P w = .ok z w) (ad : Q z x0 []) (O : ST dd F w W μ (X ++ (R ++ Y))) (h : iY kenc Q mv lv l R) (hm : gv E m = mv) (hx : gv E x = kenc k) (hK : ∀ W' v st R' R1, ST dd F w W' μ (X ++ (R' ++ (R1 ++ Y))) → Q v ((gQ beq l k).getD x0) R1 → y9 beq kenc Q mv l k st R' → Kk (.tuple #[v, .int .i64 (st : Nat)]) W') : jx P E ⟨d, .mapEntry t m x, ty, pos, af, g⟩ W Kk := by
 obtain ⟨Rm, Rv, rfl, ⟨n, es, clock, rfl, rfl, o⟩, M⟩ := h
 have hb : W.heap[n]? = some (.map es clock) := (O.box n (.map es clock) (by simp)).1
 have h5 : (getObj n : Sem Obj).run P W = .ok (.map es clock) W := by simp [getObj, Sem.run, hb]
 have J := K.find k _ _ o.keys W
 rw [o.get k] at J
 have u := M.find (beq := beq) k
 have s : ∀ W' v, (Instr.mapEntry t (.map (some n)) (kenc k)).run P W = .ok v W' → (execOp (gv E) ⟨d, .mapEntry t m x, ty, pos, af, g⟩).run P W = .ok (.value v) W' := by
  intro W' v hr
  show (do pure (.value (← Instr.mapEntry t (gv E m) (gv E x))) : Sem Next).run P W = _
  rw [hm, hx]
  simp [hr]
 have r : ST dd F w W μ (X ++ (n, .map es clock) :: (Rv ++ Y)) := by simpa using O
 cases b : lv.findIdx? (fun p => beq k p.1) with
 | none =>
  rw [b] at J u
  have a := o.put (beq := beq) k z
  rw [b] at a
  refine .inl ⟨_, ChangeMaps.setBlock W n (.map (es.push { key := kenc k, val := z, born := clock }) (clock + 1)), s _ (.tuple #[z, .int .i64 (clock : Nat)]) ?_, hK _ z clock ((n, .map (es.push { key := kenc k, val := z, born := clock }) (clock + 1)) :: (Rv ++ [])) [] ?_ ?_ ?_⟩
  ·simp [Instr.mapEntry, aq ht, h5, K.check, J, nM hb, hz _, goInt]
  ·have := r.setBlock (.map (es.push { key := kenc k, val := z, born := clock }) (clock + 1))
   simpa using this
  ·rw [sP u.symm]; exact ad
  ·refine ⟨n, _, _, lv ++ [(k, z)], Rv, [], es.size, { key := kenc k, val := z, born := clock }, rfl, rfl, a, by simp, rfl, ?_, fun v x R1 hq => ?_⟩
   ·rw [de, b]
    have a8 := o.length
    simp [cz, hk, a8]
   ·rw [← na b, uT (fun x => hk.2 rfl), na b, na u.symm]
    simpa using M.push k hq
 | some i =>
  rw [b] at J u
  obtain ⟨p, hp, ab⟩ := kQ b
  obtain ⟨q, a7, T⟩ := kQ u.symm
  have av := hk.1 T
  obtain ⟨v, A, R1, B, g1, rfl, g3, g4⟩ := M.get i q.1 q.2 a7
  have a6 : p.2 = v := by rw [g1] at hp; cases hp; rfl
  have a8 := o.length
  have ao : i < lv.length := (aC.1 hp).1
  obtain ⟨L, c⟩ : ∃ L, es[i]? = some L := ⟨es[i], cX (by omega)⟩
  obtain ⟨p', a1, G, I⟩ := o.val c
  rw [hp] at a1
  cases a1
  simp only [aa, hp, bJ] at J
  have a := o.put (beq := beq) k v
  rw [b] at a
  have U : ((es[i]?).map (·.key)).getD (kenc k) = kenc k := by
   rw [c]
   simp only [bJ, dJ, G]
   exact K.eq k p.1 ab
  have Z : es.modify i (fun e => { e with key := kenc k }) = es.modify i (fun e => { e with key := kenc k, val := v }) := qz fun e he => by
   rw [c] at he; cases he
   rw [← a6, ← I]
  refine .inl ⟨_, ChangeMaps.setBlock W n (.map (es.modify i fun e => { e with key := kenc k, val := v }) clock), s _ (.tuple #[v, .int .i64 (L.born : Nat)]) ?_, hK _ v L.born ((n, .map (es.modify i fun e => { e with key := kenc k, val := v }) clock) :: (A ++ B)) R1 ?_ ?_ ?_⟩
  ·simp only [Instr.mapEntry, aQ, aq ht, h5, K.check, J, aH, U, Instr.keyThatStays, K.bits, bi, bA]
   rw [nM hb, Z]
   simp [c, goInt, a6]
  ·have := r.setBlock (.map (es.modify i fun e => { e with key := kenc k, val := v }) clock)
   refine this.perm ?_
   simp only [ay, bZ]
   refine aY _ (List.Perm.cons _ (aY _ ?_))
   rw [← ay, ← ay]
   exact ej _ cH
  ·rw [qw u.symm a7]; exact g3
  ·refine ⟨n, _, _, lv.set i (k, v), A, B, i, { L with key := kenc k, val := v }, rfl, rfl, a, ?_, rfl, ?_, fun v2 x2 R2 hq => ?_⟩
   ·rw [cd, ar rfl, c]; rfl
   ·rw [bF] at b ⊢
    obtain ⟨h1, o, M⟩ := b
    refine ⟨by simpa using h1, by simp [hk], fun j hj => ?_⟩
    rw [dU (by omega)]
    exact M j hj
   ·rw [← ky b, uT (fun x => hk.2 rfl), ky b, ky u.symm]
    exact g4 k v2 x2 R2 hq
theorem yl {es : Array MapEntry} (h : es.toList.Pairwise (fun a b => a.born < b.born)) {i : Nat} {e : MapEntry} (he : es[i]? = some e) : es.findIdx? (fun a => (a.born : Int) == (e.born : Int)) = some i := by
 rw [Array.findIdx?_eq_some_iff_getElem]
 obtain ⟨d, c⟩ := bx.1 he
 refine ⟨d, by rw [c]; simp, fun j g => ?_⟩
 have := List.pairwise_iff_getElem.1 h j i (by simpa using Nat.lt_trans g d) (by simpa using d) g
 simp only [Array.getElem_toList] at this
 rw [c] at this
 simp
 omega
theorem Aa {Z : Value → World → Prop} (X : List (Nat × Obj)) {Y R R1 : List (Nat × Obj)} {t e : TypeId} {m s y : Operand} {U u : Value} {z : γ} {l : List (κ × γ)} {k : κ} {st : Nat} (hk : ∀ {x y : κ}, beq x y = true ↔ x = y) (K : jI P kt kenc beq) (o : ST dd F w W μ (X ++ (R ++ (R1 ++ Y)))) (h : y9 beq kenc Q U l k st R) (hm : gv E m = U) (hs : gv E s = .int .i64 (st : Nat)) (hy : gv E y = u) (hq : Q u z R1) (hK : ∀ W' T R', ST dd F w W' μ (X ++ (R' ++ Y)) → iY kenc Q U T (iQ beq l k z) R' → Z undef W') : jx P E ⟨d, .entryStore t m s y, ty, pos, af, g⟩ W Z := by
 obtain ⟨b, es, clock, lv, A, B, i, en, rfl, rfl, J, j, c, M, h3⟩ := h
 have hb : W.heap[b]? = some (.map es clock) := (o.box b (.map es clock) (by simp)).1
 have h5 : (getObj b : Sem Obj).run P W = .ok (.map es clock) W := by simp [getObj, Sem.run, hb]
 obtain ⟨p, hp, L⟩ := kQ M
 obtain ⟨p', I, n, O⟩ := J.val j
 rw [hp] at I
 cases I
 have a := J.put (beq := beq) k u
 rw [M] at a
 have G : es.modify i (fun e => { e with val := u }) = es.modify i (fun e => { e with key := kenc k, val := u }) := qz fun e he => by
  rw [j] at he; cases he
  have r : en.key = kenc k := by rw [n]; exact K.eq k p.1 L
  rw [← r]
 have v := yl J.born j
 rw [c] at v
 have q : ST dd F w W μ (X ++ (b, .map es clock) :: (A ++ (B ++ (R1 ++ Y)))) := by simpa using o
 refine .inr (.inl ⟨ChangeMaps.setBlock W b (.map (es.modify i fun e => { e with key := kenc k, val := u }) clock), ?_, hK _ (iQ beq lv k u) ((b, .map (es.modify i fun e => { e with key := kenc k, val := u }) clock) :: (A ++ (R1 ++ B))) ?_ ⟨[(b, .map (es.modify i fun e => { e with key := kenc k, val := u }) clock)], A ++ (R1 ++ B), rfl, ⟨b, _, _, rfl, rfl, ?_⟩, h3 u z R1 hq⟩⟩)
 ·show (do Instr.entryStore t (gv E m) (gv E s) (gv E y); pure .skip : Sem Next).run P W = _
  rw [hm, hs, hy]
  simp only [Instr.entryStore, aQ, h5, aH, asInt, asIntOf, bA, v]
  rw [nM hb, G]
  rfl
 ·have := q.setBlock (.map (es.modify i fun e => { e with key := kenc k, val := u }) clock)
  refine this.perm ?_
  simp only [ay, bZ]
  refine aY _ (List.Perm.cons _ (aY _ ?_))
  rw [← ay, ← ay]
  exact ej _ cH
 ·rw [ky M]; exact a
end
end Go.Proofs.YtbnbdigcbldfhaaGreat
namespace Go.Proofs.YtbnbdigcbldfhaaGreat
open Go.RowKit
variable {dd : Bool}
section
variable {κ γ : Type} {Q : Value → γ → List (Nat × Obj) → Prop} {beq : κ → κ → Bool} {kenc : κ → Value}
def iF (kenc : κ → Value) (Q : Value → γ → List (Nat × Obj) → Prop) (v : Value) (l : List (κ × γ)) (R : List (Nat × Obj)) : Prop := ∃ a, iY kenc Q v a l R
def py (kenc : κ → Value) (Q : Value → γ → List (Nat × Obj) → Prop) (μ : gT) (v : Value) (l : List (κ × γ)) : Prop := ∃ a R, iY kenc Q v a l R ∧ ∀ b o, (b, o) ∈ R → μ b = some o
theorem iF.at {v : Value} {l : List (κ × γ)} {R : List (Nat × Obj)} {μ : gT} (h : iF kenc Q v l R) (a : ∀ b o, (b, o) ∈ R → μ b = some o) : py kenc Q μ v l := let ⟨c, h⟩ := h; ⟨c, R, h, a⟩
theorem py.mono {v : Value} {l : List (κ × γ)} {μ μ' : gT} (h : py kenc Q μ v l) (d : ig μ μ') : py kenc Q μ' v l := let ⟨g, R, h, a⟩ := h; ⟨g, R, h, fun b o c => d _ _ (a b o c)⟩
theorem iY.form {v : Value} {a : List (κ × Value)} {l : List (κ × γ)} {R : List (Nat × Obj)} (h : iY kenc Q v a l R) : ∃ m, v = .map (some m) := let ⟨_, _, _, h, _⟩ := h; h.form
theorem iY.e {v : Value} {a : List (κ × Value)} {l : List (κ × γ)} {R : List (Nat × Obj)} (h : iY kenc Q v a l R) : iF kenc Q v l R := ⟨a, h⟩
theorem iF.form {v : Value} {l : List (κ × γ)} {R : List (Nat × Obj)} (h : iF kenc Q v l R) : ∃ m, v = .map (some m) := let ⟨_, h⟩ := h; h.form
theorem iF.new {v : Value} {R : List (Nat × Obj)} (h : gV (β := Value) kenc (fun x => x) v [] R) : iF kenc Q v [] R := ⟨[], R, [], (aX R).symm, h, rfl⟩
theorem iY.rowAt {α : Type} {e : TypeId} {enc : α → List Value} {n : Nat} {g : Value} {c : List (κ × Value)} {l : List (κ × List α)} {R : List (Nat × Obj)} (hk : ∀ {x y : κ}, beq x y = true → x = y) (h : iY kenc (gI e enc n) g c l R) (k : κ) :
  ∃ R1, gI e enc n (lW beq c k (.slice none 0 0)) ((gQ beq l k).getD []) R1 ∧ ∀ b o, (b, o) ∈ R1 → (b, o) ∈ R := by
 cases a : gQ beq l k with
 | none => refine ⟨[], ?_, fun b o h => by cases h⟩; rw [lW, h.BJ a]; exact .inl ⟨rfl, rfl, rfl⟩
 | some x =>
  obtain ⟨v, A, R1, B, g1, rfl, g3, _⟩ := h.found hk a
  refine ⟨R1, ?_, fun b o d => by simp [d]⟩
  rw [lW, g1]; exact g3
theorem gI.vA {α : Type} {e : TypeId} {enc : α → List Value} {k : Nat} {v : Value} {l : List α} {R : List (Nat × Obj)} (h : gI e enc k v l R) (hk : ∀ x, (enc x).length = k) : Sl (Pl enc) k (uW R) v l := by
 refine h.sl hk (fun b o a => ?_)
 rcases h with ⟨rfl, rfl, rfl⟩ | ⟨g, cap, c, rfl, rfl, _⟩
 ·cases a
 ·simp at a; obtain ⟨rfl, rfl⟩ := a; simp [uW]
end
theorem mu.hp (W : World) : mu (hp W) [] W := ⟨fun _ _ h => h, fun _ _ h => by cases h⟩
section
variable {P : Program} {W : World} {E : Nat → Value} {d : Option Nat} {ty : TypeId} {pos : String} {af : Array Edge} {g : Option (Nat × Bool)} {F : Nat → Prop} {w : World} {μ : gT} {L : List (Nat × Obj)}
theorem xC {t k e : TypeId} (dd : Nat) (b : P.underlying t = some (.map k e)) (a : Option Nat) (W : World) : (Op.equalIn (dd + 1) t (.map a) (.map none)).run P W = .ok a.isNone W := by
 cases a <;> simp [Op.equalIn, aq b]
theorem xy {a m k e : TypeId} {x y : Operand} {r : Option Nat} {b : Bool} (i : P.underlying a = some (.map k e)) (j : gv E x = .map r) (l : gv E y = .map none) (h : r.isNone = b) :
  iB P E ⟨d, .binOp .eql a x y m, ty, pos, af, g⟩ W (.bool b) W := by
 subst h
 show (do let r ← (do eqGuard .eql a x y (gv E x) (gv E y); binOp .eql a (gv E x) (gv E y)); pure (.value r) : Sem Next).run P W = _
 rw [j, l]
 have c := xC 9999 i r W
 simp [eqGuard, binOp, Op.equal, show Op.maxDepth = 9999 + 1 from rfl, c]
theorem Ay {κ κ2 β : Type} {kenc : κ → Value} {kenc2 : κ2 → Value} {vf : β → Value} {beq : κ → κ → Bool} {b o kt e : TypeId} {x y : Operand} {n : Value} {a : List (κ × Value)} {l : List (κ × List (κ2 × β))} {R : List (Nat × Obj)} {k : κ} (hk : ∀ {x y : κ}, beq x y = true → x = y) (i : P.underlying b = some (.map kt e)) (h : iY kenc (gV kenc2 vf) n a l R) (j : gv E x = lW beq a k (.map none)) (m : gv E y = .map none) :
  iB P E ⟨d, .binOp .eql b x y o, ty, pos, af, g⟩ W (.bool (gQ beq l k).isNone) W := by
 obtain ⟨r, h1, c⟩ := h.isNil hk k
 exact xy i (j.trans h1) m c
theorem uf {κ γ : Type} {b : Value → World → Prop} {t : TypeId} (kenc : κ → Value) (Q : Value → γ → List (Nat × Obj) → Prop) (a : ST dd F w W μ L) (h : ∀ W' v R, ST dd F w W' μ (R ++ L) → iF kenc Q v [] R → b v W') : jx P E ⟨d, .makeMap t none, ty, pos, af, g⟩ W b :=
 ry kenc (fun x : Value => x) a (fun W' v R h1 c => h W' v R h1 (iF.new c))
end
def lk {α : Type} (e : TypeId) (enc : α → List Value) (k : Nat) (v : Value) (l : List α) (R : List (Nat × Obj)) : Prop :=
 (v = .slice none 0 0 ∧ l = [] ∧ R = []) ∨
 ∃ g off cap a, v = .slice (some ⟨g, off, none⟩) l.length cap ∧ R = [(g, .cells a e (0, 0))] ∧ l.length ≤ cap ∧ cap ≤ maxLen ∧ off + cap * k ≤ a.size ∧ (a.toList.drop off).take (l.length * k) = (l.map enc).flatten
section
variable {α : Type} {e : TypeId} {enc : α → List Value} {k : Nat} {v : Value} {l : List α} {R : List (Nat × Obj)}
theorem lk.nil (e : TypeId) (enc : α → List Value) (k : Nat) : lk e enc k (.slice none 0 0) [] [] := .inl ⟨rfl, rfl, rfl⟩
theorem gI.FC (h : gI e enc k v l R) : lk e enc k v l R := by
 rcases h with h | ⟨g, cap, a, h1, b, c, d, j, i⟩
 ·exact .inl h
 ·exact .inr ⟨g, 0, cap, a, h1, b, c, d, by omega, by simpa using i⟩
theorem lk.len (h : lk e enc k v l R) : l.length ≤ 9223372036854775807 := by
 rcases h with ⟨rfl, rfl, rfl⟩ | ⟨g, off, cap, a, rfl, rfl, h1, b, _⟩
 ·simp
 ·unfold maxLen at b; omega
theorem lk.form (h : lk e enc k v l R) : ∃ A c, v = .slice A l.length c := by
 rcases h with ⟨rfl, rfl, rfl⟩ | ⟨g, off, cap, a, rfl, rfl, _⟩
 ·exact ⟨_, _, rfl⟩
 ·exact ⟨_, _, rfl⟩
theorem lk.vA (h : lk e enc k v l R) (hk : ∀ x, (enc x).length = k) : Sl (Pl enc) k (uW R) v l := by
 rcases h with ⟨rfl, rfl, rfl⟩ | ⟨g, off, cap, a, rfl, rfl, h1, c, o, d⟩
 ·exact Sl.nil _ _ _
 ·refine ⟨_, cap, rfl, h1, c, fun _ => ⟨g, off, a, e, (0, 0), rfl, by simp [uW], fun i x m => ⟨enc x, hk x, rfl, fun j y n => ?_⟩⟩⟩
  have := qQ hk l i x m j y n
  rw [← d] at this
  have b : i * k + j < l.length * k := by
   have := (aC.1 this).1
   simp at this; omega
  rw [cw b, cj] at this
  simpa [dh] using this
variable {P : Program} {W : World} {E : Nat → Value} {d : Option Nat} {ty : TypeId} {pos : String} {af : Array Edge} {g : Option (Nat × Bool)} {F : Nat → Prop} {w : World} {μ : gT} {L : List (Nat × Obj)}
theorem Dl {x : Operand} {t a : TypeId} (b : P.underlying t = some (.slice a)) (i : gv E x = v) (h : lk e enc k v l R) : iB P E ⟨d, .call ⟨.builtin .len, #[x], #[t]⟩, ty, pos, af, g⟩ W (.int .i64 l.length) W := by
 obtain ⟨A, c, rfl⟩ := h.form
 exact vP b i
theorem BC {t n : TypeId} {x j : Operand} {K : IntKind} {i : Int} (r : P.underlying t = some (.slice n)) (he : ∀ w, (sizeOf n).run P w = .ok k w) (s : gv E x = v) (p : gv E j = .int K i) (hk : ∀ x, (enc x).length = k) (h : lk e enc k v l R) (y : 0 ≤ i) (q : i ≤ l.length) :
  ∃ u, lk e enc k u (l.drop i.toNat) R ∧ ∀ W, iB P E ⟨d, .slice t x (some j) none none, ty, pos, af, g⟩ W u W := by
 rcases h with ⟨rfl, rfl, rfl⟩ | ⟨g', off, cap, b, rfl, rfl, h1, L, M, A⟩
 ·have : i = 0 := by simp at q; omega
  subst this
  refine ⟨.slice none 0 0, by simpa using lk.nil e enc k, fun W => ?_⟩
  show (do pure (.value (← Instr.sliceAt t (gv E x) (some (gv E j)) none none)) : Sem Next).run P W = _
  rw [s, p]
  simp [Instr.sliceAt, Instr.slice, Instr.sliceBounds, Instr.sliceBound, asIntOf, aq r, he W]
 ·refine ⟨.slice (some (if cap = i.toNat then ⟨g', off, none⟩ else (Addr.add ⟨g', off, none⟩ (i.toNat * k)))) (l.length - i.toNat) (cap - i.toNat), .inr ?_, fun W => ?_⟩
  ·have a : (l.drop i.toNat).length = l.length - i.toNat := by simp
   have c : (l.map enc).flatten.drop (i.toNat * k) = ((l.drop i.toNat).map enc).flatten := by
    have G : l = l.take i.toNat ++ l.drop i.toNat := (List.take_append_drop _ _).symm
    have I : ((l.take i.toNat).map enc).flatten.length = i.toNat * k := by rw [lC hk, bO, bW (by omega)]
    conv => lhs; rw [G, aP, dm]
    rw [← I, List.drop_left]
   by_cases o : cap = i.toNat
   ·rw [ar o]
    have m : l.drop i.toNat = [] := List.drop_eq_nil_of_le (by omega)
    refine ⟨g', off, cap - i.toNat, b, by rw [m]; simp; omega, rfl, by rw [m]; simp, by omega, by have : (cap - i.toNat) * k ≤ cap * k := aW _ (by omega); omega, by rw [m]; simp⟩
   ·rw [al o]
    refine ⟨g', off + i.toNat * k, cap - i.toNat, b, by rw [a, cg], rfl, by rw [a]; omega, by omega, ?_, ?_⟩
    ·have : i.toNat * k + (cap - i.toNat) * k = cap * k := by rw [← aZ]; congr 1; omega
     omega
    ·rw [a, ← c, ← A, eS, List.drop_drop, Nat.sub_mul]
  ·show (do pure (.value (← Instr.sliceAt t (gv E x) (some (gv E j)) none none)) : Sem Next).run P W = _
   rw [s, p]
   have J : 0 ≤ i ∧ i ≤ (l.length : Int) := ⟨y, q⟩
   simp [Instr.sliceAt, Instr.slice, Instr.sliceBounds, Instr.sliceBound, asIntOf, aq r, he W, J]
   split <;> rfl
theorem An {K : Value → World → Prop} {t : TypeId} {a1 : Nat} {z vs : Value} {m r : List α} (X : List (Nat × Obj)) {Y : List (Nat × Obj)} {x y : Operand} {i : TypeInfo} (a6 : ST dd F w W μ (X ++ (R ++ Y))) (hk : ∀ x, (enc x).length = k) (b2 : 0 < k) (h1 : ∀ x, ∀ u ∈ enc x, u.oneCell' = true) (ht : P.underlying t = some (.slice e)) (hi : P.info? e = some i) (hz : i.zero = some z) (ab : z.cells.size = k) (Z : i.size = k) (a7 : i.bytes = a1) (hx : gv E x = v) (hy : gv E y = vs) (hR : lk e enc k v l R) (hs : Sl (Pl enc) k (hp W) vs m) (hb : jh a1 l m = some r) (h : ∀ W' v' R', ST dd F w W' μ (X ++ (R' ++ Y)) → lk e enc k v' r R' → K v' W') : jx P E ⟨d, .call ⟨.builtin .append, #[x, y], #[t, t]⟩, ty, pos, af, g⟩ W K := by
 rcases hR with ⟨rfl, rfl, rfl⟩ | ⟨g', off, cap, p, rfl, rfl, h2, h3, h4, h5⟩
 ·exact wL X a6 hk b2 h1 ht hi hz ab Z a7 hx hy (gI.nil e enc k) hs hb (fun W' v' R' a b => h W' v' R' a b.FC)
 unfold jh at hb
 split at hb
 case isFalse => cases hb
 rename_i U
 cases hb
 have Q : ∀ (V : Value) (W' : World), (Builtin.append_ #[t, t] ty #[.slice (some ⟨g', off, none⟩) l.length cap, vs]).run P W = .ok V W' → (execOp (gv E) ⟨d, .call ⟨.builtin .append, #[x, y], #[t, t]⟩, ty, pos, af, g⟩).run P W = .ok (.value V) W' := by
  intro V W' hV
  show (do let d ← resolve (gv E) ⟨.builtin .append, #[x, y], #[t, t]⟩ ty; invoke d.target d.args : Sem Next).run P W = _
  simp [resolve, invoke, builtin, hx, hy, hV]
 obtain ⟨A, c, rfl, b5, b6, aE⟩ := hs
 have J : ST dd F w W μ (X ++ (g', .cells p e (0, 0)) :: Y) := by simpa using a6
 have hg : W.heap[g']? = some (.cells p e (0, 0)) := (J.box g' _ (by simp)).1
 have I := lC hk l
 have O : ∀ u ∈ (m.map enc).flatten, u.oneCell' = true := by
  intro u hu
  obtain ⟨ys, b4, b3⟩ := fO.1 hu
  obtain ⟨x, _, rfl⟩ := aK.1 b4
  exact h1 x u b3
 have G : Src P i.size t (.slice A m.length c) m.length ((m.map enc).flatten) W := by
  rw [Z]
  rcases cy m.length with h0 | h0
  ·have hm : m = [] := cq h0
   subst hm
   cases A with
   | none => exact Src.ofNil W ht c
   | some ad => exact Src.ofSlice W ht ad 0 c [] (by simp) (fun j u hu => by simp at hu) (fun u hu => by cases hu)
  ·obtain ⟨b, o, cs, T, fr, rfl, h6, h7⟩ := aE h0
   refine Src.ofSlice W ht _ _ c _ (lC hk m) (fun j u hu => ?_) O
   obtain ⟨i, x, q, h8, h9, rfl⟩ := wM hk m j u hu
   obtain ⟨ys, _, ao, av⟩ := h7 i x h8
   cases ao
   rw [cg, eb W b (o + (i * k + q)) cs T fr h6, ← dh]
   exact av q u h9
 have n := lC hk m
 have M : ((l ++ m).map enc).flatten = (l.map enc).flatten ++ (m.map enc).flatten := by simp
 generalize (m.map enc).flatten = fm at G O n M
 subst Z
 have b7 : l.length * i.size ≤ cap * i.size := aW _ h2
 by_cases s : l.length + m.length ≤ cap
 ·have b8 : l.length * i.size + m.length * i.size ≤ cap * i.size := by rw [← aZ]; exact aW _ s
  have a8 := fq (P := P) g' (off + l.length * i.size) e fm 0 p W hg (by rw [n]; omega) O
  have L : (Builtin.append_ #[t, t] ty #[.slice (some ⟨g', off, none⟩) l.length cap, .slice A m.length c]).run P W = .ok (.slice (some ⟨g', off, none⟩) (l.length + m.length) cap) (W.setRow g' (p.toList.take (off + l.length * i.size) ++ fm ++ p.toList.drop (off + l.length * i.size + fm.length)).toArray) := by
   simp [Builtin.append_, aq ht, sizeOf, typeInfo, hi, G.len, s, G.cells, cg]
   simp only [Nat.add_zero] at a8
   rw [a8]
   simp
  refine .inl ⟨_, _, Q _ _ L, h _ _ [(g', _)] (by simpa using J.store _) (.inr ⟨g', off, cap, _, by rw [an], rfl, by simpa using s, h3, ?_, ?_⟩)⟩
  ·simp only [cr, an, bO, et, cn, n]
   rw [bW (by omega)]
   omega
  ·have hA : (p.toList.take (off + l.length * i.size)).length = off + l.length * i.size := by simp; omega
   show ((p.toList.take (off + l.length * i.size) ++ (fm ++ p.toList.drop (off + l.length * i.size + fm.length))).drop off).take ((l ++ m).length * i.size) = _
   rw [M, List.drop_append, eS, hA, show off - (off + l.length * i.size) = 0 by omega, List.drop_zero, show off + l.length * i.size - off = l.length * i.size by omega, h5]
   rw [an, aZ, dq, dq, I, n, bR (by rw [I]; omega), show l.length * i.size + m.length * i.size - l.length * i.size = m.length * i.size by omega, bR (by rw [n]; omega)]
   simp
 ·have hold : (Builtin.firstCells i.size l.length (.slice (some ⟨g', off, none⟩) l.length cap)).run P W.drew = .ok ((l.map enc).flatten).toArray W.drew := by
   refine run_firstCells_some W.drew i.size l.length ⟨g', off, none⟩ l.length cap _ I (fun j u hu => ?_)
   rw [cg]
   show W.cell? ⟨g', off + j, none⟩ = some u
   rw [eb W g' (off + j) p e (0, 0) hg]
   rw [← h5] at hu
   have hj : j < l.length * i.size := by have := (aC.1 hu).1; simp at this; omega
   rw [cw hj, cj] at hu
   simpa using hu
  have hlen : (l ++ m).length = l.length + m.length := an
  have b1 := grownCap_ge W (l.length + m.length) cap e
  have b0 := grownCap_le_maxLen W (l.length + m.length) cap e U.2
  have L := run_append_grow_src (P := P) W t t ty e i z ht hi hz (some ⟨g', off, none⟩) l.length cap ((l.map enc).flatten) hold _ m.length _ G (by omega) (by have := U.2; unfold maxLen at this; omega) (growslice_fits (by omega) (by rw [a7]; exact U.1))
  have h6 := J.drew.alloc (.cells (((l.map enc).flatten ++ fm).toArray ++ Builtin.zeroCells z.cells (grownCap W (l.length + m.length) cap e - (l.length + m.length))) e (0, 0))
  have h7 := (ST.drop (A := (W.drew.heap.size, _) :: X) h6).perm (L' := X ++ ([(W.heap.size, _)] ++ Y)) (by simpa using (cJ (a := (W.heap.size, _)) (l₁ := X) (l₂ := Y)).symm)
  refine .inl ⟨_, _, Q _ _ L, h _ _ _ h7 (gI.FC (.inr ⟨W.heap.size, grownCap W (l.length + m.length) cap e, _, by rw [hlen], rfl, by rw [hlen]; exact b1, b0, ?_, ?_⟩))⟩
  ·rw [Array.size_append, size_zeroCells, ab]
   simp only [cr, an, I, n]
   rw [← aZ, ← aZ]
   congr 1
   omega
  ·rw [Array.toList_append, List.toList_toArray, hlen, M, List.take_append_of_le_length (by simp only [an, I, n]; rw [aZ]; exact aJ _), bR (by simp only [an, I, n]; rw [aZ]; exact aJ _)]
end
end Go.Proofs.YtbnbdigcbldfhaaGreat
namespace Go.Proofs.YtbnbdigcbldfhaaGreat
open Go.RowKit
variable [M : Md]
section
variable {P : Program} {ops : Array Oper} {Q : Exit → Act → World → Prop} {S : Array Bool → World → Prop}
def pS (ops : Array Oper) (l : Array Bool) : Prop := ∀ j o, ops[j]? = some o → l.getD j true = true → ∀ e ∈ o.after, Region.binds .any e = true → l.getD e.on true = true
def xb (ops : Array Oper) : Nat → List Nat → Bool
 | _, [] => true
 | j, k :: r => (match ops[j]? with | some o => o.after.any (fun e => Region.binds .any e && e.on == k) | none => false) && xb ops k r
theorem xp {l : Array Bool} (c : pS ops l) : ∀ (r : List Nat) (j i : Nat), xb ops j r = true → (j :: r).getLast? = some i → l.getD j true = true → l.getD i true = true
 | [], j, i, _, h, a => by simp at h; subst h; exact a
 | k :: r, j, i, h, g, a => by
  simp only [xb, aD] at h
  obtain ⟨h1, d⟩ := h
  cases b : ops[j]? with
  | none => rw [b] at h1; cases h1
  | some o =>
   rw [b] at h1
   simp only [Array.any_eq_true] at h1
   obtain ⟨n, m, h1⟩ := h1
   simp only [aD, fT] at h1
   have := c j o b a o.after[n] (Array.getElem_mem m) h1.1
   rw [h1.2] at this
   exact xp c r k i d (by simpa [List.getLast?_cons_cons] using g) this
def wD (ops : Array Oper) (i : Nat) (l : Array Bool) : Prop := pS ops l ∧ l.getD i true = false
theorem wD.DH {l : Array Bool} {i : Nat} (h : wD ops i l) (j : Nat) (r : List Nat) (a : xb ops j r = true) (c : (j :: r).getLast? = some i) : l.getD j true = false := by
 cases b : l.getD j true with
 | false => rfl
 | true => have := xp h.1 r j i a c b; rw [h.2] at this; cases this
theorem pS.start (n : Nat) (h : n = ops.size) : pS ops (Array.replicate n false) := by
 subst h
 intro j o c b
 have a : j < ops.size := (bx.1 c).1
 simp [a] at b
theorem pS.set {l : Array Bool} {i : Nat} (h : pS ops l) (q : i ∈ Region.ready .any ops l) : pS ops (l.setIfInBounds i true) := by
 intro j o p n e he m
 have up : ∀ {k : Nat}, l.getD k true = true → (l.setIfInBounds i true).getD k true = true := fun {k} hk => by
  by_cases c : i = k
  ·subst c
   by_cases g : i < l.size
   ·simp [g]
   ·simp [g]
  ·rw [gh true c]; exact hk
 by_cases b : i = j
 ·subst b
  obtain ⟨_, o', d, a⟩ := gk.1 q
  rw [p] at d
  cases d
  refine up ?_
  have := a e he m
  by_cases g : e.on < l.size
  ·simp [g] at this ⊢; exact this
  ·simp [g]
 ·rw [gh true b] at n
  exact up (h j o p n e he m)
def tP (P : Program) (ops : Array Oper) (S : Array Bool → World → Prop) (i : Nat) (o : Oper) (v : Value) (a : Act) : Prop :=
 (Region.wanted o (yielded ops a.tmps) = true ∧ ∀ l w, wD ops i l → S l w → (execOp a.eval o).run P w = .ok (.value v) w) ∨
 (Region.wanted o (yielded ops a.tmps) = false ∧ v = undef)
theorem tP.FF {i : Nat} {o : Oper} {v : Value} {a : Act} {l : Array Bool} (h : tP P ops S i o v a) (hp : wD ops i l) : YieldsIf P ops (S l) o v a :=
 h.imp (fun ⟨h1, b⟩ => ⟨h1, fun w hw => b l w hp hw⟩) id
def A3 (P : Program) (ops : Array Oper) (Q : Exit → Act → World → Prop) (S : Array Bool → World → Prop) : Nat → Array Bool → Act → World → Prop
 | 0, l, a, w => Region.ready .any ops l = [] ∧ Q .normal a w
 | n + 1, l, a, w => (Region.ready .any ops l = [] → Q .normal a w) ∧
  ∀ i ∈ Region.ready .any ops l, wpOp P ops Q i (fun c b => S (l.setIfInBounds i true) b ∧ A3 P ops Q S n (l.setIfInBounds i true) c b) a w
theorem AI : ∀ (n : Nat) (l : Array Bool) (a : Act) (w : World), A3 P ops Q S n l a w → wpAny P .any ops Q n l a w
 | 0, _, _, _, h => h
 | n + 1, _, _, _, h => ⟨h.1, fun i d => wpOp_mono (fun b g c => AI n _ b g c.2) (h.2 i d)⟩
theorem Ct {i j : Nat} {d p : Oper} {v : Value} (t : ops[j]? = some p) (m : d.apart ops p = true) (n : ∀ cs b, d.op ≠ .select cs b) (o : ∀ cs b, p.op ≠ .select cs b) (s : ∀ c a w, Q (.panic c) (a.put d.dst v) w → Q (.panic c) a w) {K : Act → World → Prop} {a : Act} {w : World} (u : tP P ops S i d v a) (h : wpOp P ops Q j K (a.put d.dst v) w) :
  wpOp P ops Q j (fun g r => tP P ops S i d v g ∧ K (g.put d.dst v) r) a w := by
 have h1 : YieldsIf P ops (fun w => ∃ l, wD ops i l ∧ S l w) d v a := u.imp (fun ⟨h1, k⟩ => ⟨h1, fun w ⟨l, hp, hw⟩ => k l w hp hw⟩) id
 refine wpOp_mono (fun g r q => ⟨q.1.imp (fun ⟨h1, k⟩ => ⟨h1, fun l w hp hw => k w ⟨l, hp, hw⟩⟩) id, q.2⟩) (wpOp_putIf (S := fun w => ∃ l, wD ops i l ∧ S l w) t m n o s h1 h)
theorem yj {i : Nat} {x : Oper} {v : Value} (U : ops[i]? = some x) (s : ∀ (j : Nat) (o : Oper) cs b, ops[j]? = some o → o.op ≠ .select cs b) (hQ : ∀ c a w, Q (.panic c) (a.put x.dst v) w → Q (.panic c) a w) (hm : ∀ l w, S (l.setIfInBounds i true) w → S l w) :
  ∀ (n : Nat) (l : Array Bool) (a : Act) (w : World), (∀ j y, ops[j]? = some y → j ≠ i → l.getD j true = false → (∀ e ∈ y.after, Region.binds .any e = true → e.on ≠ i) → x.apart ops y = true) →
   pS ops l → i ∈ Region.ready .any ops l → tP P ops S i x v a → S (l.setIfInBounds i true) w → A3 P ops Q S n (l.setIfInBounds i true) (a.put x.dst v) w → A3 P ops Q S (n + 1) l a w := by
 intro n
 induction n with
 | zero =>
  intro l a w _ L q M A H
  refine ⟨fun h => (by rw [h] at q; cases q), fun j G => ?_⟩
  by_cases d : j = i
  ·subst d
   exact (M.FF ⟨L, (gk.1 q).1⟩).wpOp U (hm l w A) ⟨A, H⟩
  ·have := ready_mono G d
   rw [H.1] at this
   cases this
 | succ n ih =>
  intro l a w m L q M A H
  refine ⟨fun h => (by rw [h] at q; cases q), fun j G => ?_⟩
  by_cases d : j = i
  ·subst d
   exact (M.FF ⟨L, (gk.1 q).1⟩).wpOp U (hm l w A) ⟨A, H⟩
  have h1 := H.2 j (ready_mono G d)
  obtain ⟨r, y, u, E⟩ := gk.1 G
  have J : ∀ e ∈ y.after, Region.binds .any e = true → e.on ≠ i := fun e he hb T => by
   have t := E e he hb
   have h0 := (gk.1 q).1
   rw [T] at t
   rcases Nat.lt_or_ge i l.size with O | O
   ·simp [O] at h0 t; rw [h0] at t; cases t
   ·simp [Array.getElem?_eq_none O] at t
  have t := Ct u (m j y u d r J) (fun cs b => s i x cs b U) (fun cs b => s j y cs b u) hQ M h1
  have p : ∀ k ok, ops[k]? = some ok → k ≠ i → (l.setIfInBounds j true).getD k true = false → (∀ e ∈ ok.after, Region.binds .any e = true → e.on ≠ i) → x.apart ops ok = true := fun k ok hk W K Y => by
   refine m k ok hk W ?_ Y
   by_cases I : j = k
   ·subst I; exact r
   ·rw [gh true I] at K; exact K
  have g : (l.setIfInBounds i true).setIfInBounds j true = (l.setIfInBounds j true).setIfInBounds i true := Array.setIfInBounds_comm _ _ (Ne.symm d)
  refine wpOp_mono (fun a' Z R => ?_) t
  have h4 : S ((l.setIfInBounds j true).setIfInBounds i true) Z := by rw [← g]; exact R.2.1
  refine ⟨hm _ Z h4, ih (l.setIfInBounds j true) a' Z p (L.set G) (ready_mono q (Ne.symm d)) R.1 h4 ?_⟩
  rw [← g]
  exact R.2.2
end
theorem Fx {ro : Md} {P : Program} {o : Oper} {a : Act} {w : World} {K : Act → World → Prop} {Q : Exit → Act → World → Prop} (i : ∀ c, o.op ≠ .defer c) (h : o.wp P a w K Q) (k : ¬ LetsOut Q) : o.wpIn ro.F 0 P a w K Q := by
 refine ⟨fun _ _ => trivial, ?_⟩
 rw [Oper.semAt_eq _ _ _ i]
 unfold Oper.wp at h
 cases g : (execOp a.eval o).run P w with
 | ok x b =>
  rw [g] at h
  cases x with
  | value v => exact h
  | skip => exact h
  | defer d => exact h
  | enter f args => exact xO (bG h fun e j he => by cases e with
   | returned v => exact he
   | panicked c => exact he
   | outgrown => exact he)
  | row r args => exact ⟨fun e => (nomatch (show (none : Option Nat).isSome = true from e)), fun c cs _ => by
    obtain ⟨v, b, r, s⟩ := h c cs
    exact ⟨v, b, r, (stepsIn_wide (P := P)).2 s⟩⟩
  | _ => exact h.elim
 | halt z b =>
  rw [g] at h
  cases z with
  | panic v => exact h
  | _ => exact h.elim
def A2 (ops : Array Oper) : Prop := ∀ (i : Nat) (o : Oper), ops[i]? = some o → ∀ c, o.op ≠ .defer c
theorem uq {ro : Md} {P : Program} {ops : Array Oper} {Q : Exit → Act → World → Prop} (d : A2 ops) (c : ¬ LetsOut Q) : ∀ (n : Nat) (l : Array Bool) (a : Act) (w : World), wpAny P .any ops Q n l a w → wpAnyIn ro.F 0 P .any ops Q n l a w
 | 0, _, _, _, h => h
 | n + 1, l, a, w, h => ⟨h.1, fun i j => by
  have b := h.2 i j
  unfold wpOp at b
  unfold wpOpIn
  cases g : ops[i]? with
  | none => rw [g] at b; exact uq d c n _ a w b
  | some o =>
   rw [g] at b
   simp only at b ⊢
   split
   ·rename_i hw
    rw [ar hw] at b
    rcases b with b | b
    ·exact Oper.wpIn_mono (fun a w h => uq d c n _ a w h) (Fx (d i o g) b c)
    ·exact absurd b.2 c
   ·rename_i hw
    rw [al hw] at b
    exact ⟨fun _ _ => trivial, uq d c n _ _ w b⟩⟩
def Bs (l : List Oper) : Bool := l.all fun o => match o.op with
 | .defer _ => false
 | _ => true
theorem Ej {l : List Oper} (h : Bs l = true) : A2 l.toArray := fun i o a c b => by
 have hm : o ∈ l := by
  rw [dy] at a
  exact List.mem_of_getElem? a
 have := fP.1 h o hm
 rw [b] at this
 cases this
theorem EM [M : Md] {n : Nat} {Q : km} : ¬ LetsOut (lift n Q) := fun ⟨_, _, h⟩ => h
def PX (P : Program) (n : Nat) (ops : Array Oper) (Q : km) (S : Array Bool → World → Prop) (fuel : Nat) (listed : Array Bool) (E : Nat → Value) (W : World) : Prop :=
 pS ops listed → ∀ a, Ag n a E → A3 P ops (lift n Q) S fuel listed a W
section
variable {P : Program} {n : Nat} {Q : km} {E : Nat → Value} {W : World} {ops : Array Oper} {S : Array Bool → World → Prop} {fuel : Nat} {listed : Array Bool}
theorem zo {id : Nat} {l : List Oper} (S : Array Bool → World → Prop) (hm : P.follows .mixedOrders = true) (h : PX P n l.toArray Q S l.length (Array.replicate l.length false) E W.drew) (c : Bs l = true) : CW P n (.region id l.toArray true) Q E W := fun a b =>
 wpIn_region_any hm (uq (Ej c) EM _ _ _ _ (AI _ _ _ _ (h (pS.start _ (by simp)) a b)))
def sQ (ops : Array Oper) (listed : Array Bool) (i : Nat) : Bool := Region.noSelect ops && Region.free .any ops listed i && (Region.ready .any ops listed).contains i
theorem jH {o : Oper} {dd : Nat} {v : Value} (i : Nat) (g : ops[i]? = some o) (hk : sQ ops listed i = true) (hw : mA n ops E o) (m : o.dst = some dd) (p : dd < n) (hm : ∀ l w, S (l.setIfInBounds i true) w → S l w) (k : S (listed.setIfInBounds i true) W) (q : ∀ l W, wD ops i l → S l W → iB P E o W v W) (h : PX P n ops Q S fuel (listed.setIfInBounds i true) (jC E dd v) W) : PX P n ops Q S (fuel + 1) listed E W := fun d a b => by
 simp only [sQ, aD] at hk
 have j : i ∈ Region.ready .any ops listed := by simpa using hk.2
 exact yj g (Region.noSelect_spec hk.1.1) (fun _ _ _ h => zU h) hm fuel listed a W (Region.free_spec g hk.1.2) d j (.inl ⟨hw.of b, fun l w hp c => by rw [b.eval]; exact q l w hp c⟩) k (by rw [m]; exact h (d.set j) _ (b.put p v))
theorem um {A : Value → Prop} {o : Oper} {dd : Nat} (i : Nat) (d : ops[i]? = some o) (hk : sQ ops listed i = true) (hw : mA n ops E o) (c : o.dst = some dd) (g : dd < n) (hm : ∀ l w, S (l.setIfInBounds i true) w → S l w) (b : S (listed.setIfInBounds i true) W) (j : ∃ p, A p ∧ ∀ W, iB P E o W p W) (h : ∀ p, A p → PX P n ops Q S fuel (listed.setIfInBounds i true) (jC E dd p) W) : PX P n ops Q S (fuel + 1) listed E W := by
 obtain ⟨p, h1, a⟩ := j
 exact jH i d hk hw c g hm b (fun _ W _ _ => a W) (h p h1)
theorem AM {o : Oper} {dd : Nat} (i : Nat) (d : ops[i]? = some o) (hk : sQ ops listed i = true) (hw : ∀ a, Ag n a E → Region.wanted o (yielded ops a.tmps) = false) (k : o.dst = some dd) (m : dd < n) (hm : ∀ l w, S (l.setIfInBounds i true) w → S l w) (j : S (listed.setIfInBounds i true) W) (h : PX P n ops Q S fuel (listed.setIfInBounds i true) (jC E dd undef) W) : PX P n ops Q S (fuel + 1) listed E W := fun c a b => by
 simp only [sQ, aD] at hk
 have g : i ∈ Region.ready .any ops listed := by simpa using hk.2
 exact yj d (Region.noSelect_spec hk.1.1) (fun _ _ _ h => zU h) hm fuel listed a W (Region.free_spec d hk.1.2) c g (.inr ⟨hw a b, rfl⟩) j (by rw [k]; exact h (c.set g) _ (b.put m _))
theorem Fu {o : Oper} {dd j t : Nat} {want : Bool} (i : Nat) (m : ops[i]? = some o) (hk : sQ ops listed i = true) (k : o.guard = some (j, want)) (p : (ops[j]?).bind (·.dst) = some t) (r : t < n) (b : E t = .bool (!want)) (g : o.dst = some dd) (q : dd < n) (hm : ∀ l w, S (l.setIfInBounds i true) w → S l w) (c : S (listed.setIfInBounds i true) W) (h : PX P n ops Q S fuel (listed.setIfInBounds i true) (jC E dd undef) W) : PX P n ops Q S (fuel + 1) listed E W :=
 AM i m hk (fun a d => by have s := d.yield p r b; simp [Region.wanted, k, s]) g q hm c h
theorem EU {o : Oper} {dd j t : Nat} {want : Bool} (i : Nat) (m : ops[i]? = some o) (hk : sQ ops listed i = true) (k : o.guard = some (j, want)) (p : (ops[j]?).bind (·.dst) = some t) (r : t < n) (b : E t = undef) (g : o.dst = some dd) (q : dd < n) (hm : ∀ l w, S (l.setIfInBounds i true) w → S l w) (c : S (listed.setIfInBounds i true) W) (h : PX P n ops Q S fuel (listed.setIfInBounds i true) (jC E dd undef) W) : PX P n ops Q S (fuel + 1) listed E W :=
 AM i m hk (fun a d => by have s := d.xk p r b; simp [Region.wanted, k, s]) g q hm c h
theorem E9 {o : Oper} {dd : Nat} (i : Nat) (s : ops[i]? = some o) (g : Region.ready .any ops listed = [i]) (hw : mA n ops E o) (l : o.dst = some dd) (m : dd < n) (h : jx P E o W fun v W' => S (listed.setIfInBounds i true) W' ∧ PX P n ops Q S fuel (listed.setIfInBounds i true) (jC E dd v) W') : PX P n ops Q S (fuel + 1) listed E W := fun k a d => by
 have b : i ∈ Region.ready .any ops listed := by rw [g]; simp
 refine ⟨fun r => (by rw [r] at g; cases g), fun j p => ?_⟩
 rw [g] at p
 obtain rfl := aA.1 p
 unfold wpOp
 simp only [s]
 rw [ar (hw.of d)]
 refine .inl ?_
 unfold Oper.wp
 rw [d.eval]
 rcases h with ⟨v, W', h1, c⟩ | ⟨W', h1, c⟩ | ⟨f, args, h1, c⟩
 ·rw [h1, fZ]; exact ⟨c.1, by rw [l]; exact c.2 (k.set b) _ (d.put m v)⟩
 ·rw [h1, Oper.upon_skip]; exact ⟨c.1, by rw [l]; exact c.2 (k.set b) _ (d.put m _)⟩
 ·rw [h1, ga]
  refine bG c ?_
  rintro e t ⟨v, rfl, q⟩
  exact ⟨q.1, by simp only [l]; exact q.2 (k.set b) _ (d.put m v)⟩
theorem FA {o : Oper} (i : Nat) (r : ops[i]? = some o) (g : Region.ready .any ops listed = [i]) (hw : mA n ops E o) (l : o.dst = none) (h : jx P E o W fun _ W' => S (listed.setIfInBounds i true) W' ∧ PX P n ops Q S fuel (listed.setIfInBounds i true) E W') : PX P n ops Q S (fuel + 1) listed E W := fun k a d => by
 have b : i ∈ Region.ready .any ops listed := by rw [g]; simp
 refine ⟨fun q => (by rw [q] at g; cases g), fun j m => ?_⟩
 rw [g] at m
 obtain rfl := aA.1 m
 unfold wpOp
 simp only [r]
 rw [ar (hw.of d)]
 refine .inl ?_
 unfold Oper.wp
 rw [d.eval]
 rcases h with ⟨v, W', h1, c⟩ | ⟨W', h1, c⟩ | ⟨f, args, h1, c⟩
 ·rw [h1, fZ, l]; exact ⟨c.1, c.2 (k.set b) _ (d.qV _)⟩
 ·rw [h1, Oper.upon_skip, l]; exact ⟨c.1, c.2 (k.set b) _ (d.qV _)⟩
 ·rw [h1, ga]
  refine bG c ?_
  rintro e s ⟨v, rfl, p⟩
  simp only [l]
  exact ⟨p.1, p.2 (k.set b) _ (d.qV _)⟩
theorem iI (d : Region.ready .any ops listed = []) (h : Q .normal E W) : PX P n ops Q S fuel listed E W := fun _ a b => by
 cases fuel with
 | zero => exact ⟨d, E, b, h⟩
 | succ f => exact ⟨fun _ => ⟨E, b, h⟩, fun i c => by rw [d] at c; cases c⟩
theorem Cx {p : Prop} {b : Bool} (a : b = true) (h : b = false) : p := by rw [a] at h; cases h
theorem iH {a : Array Bool} (b : listed = a) (h : PX P n ops Q S fuel a E W) : PX P n ops Q S fuel listed E W := by rw [b]; exact h
theorem Cy {o o' : Oper} {d r : Nat} (i j : Nat) (J : ops[i]? = some o) (K : ops[j]? = some o') (p : Region.ready .any ops listed = [i, j]) (hw : mA n ops E o) (w : mA n ops E o') (l : o.dst = some d) (t : o'.dst = some r) (m : d < n) (u : r < n) (h : jx P E o W fun v W' => S (listed.setIfInBounds i true) W' ∧ PX P n ops Q S fuel (listed.setIfInBounds i true) (jC E d v) W') (G : jx P E o' W fun v W' => S (listed.setIfInBounds j true) W' ∧ PX P n ops Q S fuel (listed.setIfInBounds j true) (jC E r v) W') : PX P n ops Q S (fuel + 1) listed E W := fun s a g => by
 have key : ∀ (k : Nat) (q : Oper) (e : Nat), ops[k]? = some q → k ∈ Region.ready .any ops listed → mA n ops E q → q.dst = some e → e < n → (jx P E q W fun v W' => S (listed.setIfInBounds k true) W' ∧ PX P n ops Q S fuel (listed.setIfInBounds k true) (jC E e v) W') →
   wpOp P ops (lift n Q) k (fun A x => S (listed.setIfInBounds k true) x ∧ A3 P ops (lift n Q) S fuel (listed.setIfInBounds k true) A x) a W := by
  intro k q e hk b hw l m h
  unfold wpOp
  simp only [hk]
  rw [ar (hw.of g)]
  refine .inl ?_
  unfold Oper.wp
  rw [g.eval]
  rcases h with ⟨v, W', h1, c⟩ | ⟨W', h1, c⟩ | ⟨f, args, h1, c⟩
  ·rw [h1, fZ]; exact ⟨c.1, by rw [l]; exact c.2 (s.set b) _ (g.put m v)⟩
  ·rw [h1, Oper.upon_skip]; exact ⟨c.1, by rw [l]; exact c.2 (s.set b) _ (g.put m _)⟩
  ·rw [h1, ga]
   refine bG c ?_
   rintro e x ⟨v, rfl, y⟩
   exact ⟨y.1, by simp only [l]; exact y.2 (s.set b) _ (g.put m v)⟩
 refine ⟨fun I => (by rw [I] at p; cases p), fun k hk => ?_⟩
 rw [p] at hk
 rcases ak.1 hk with rfl | hk
 ·exact key _ o d J (by rw [p]; simp) hw l m h
 ·obtain rfl := aA.1 hk
  exact key _ o' r K (by rw [p]; simp) w t u G
theorem lK {l : Array Bool} {i j : Nat} {A : Prop} (a : Nat.beq i j = false) (h : (l.setIfInBounds i true).getD j true = false → A) : l.getD j true = false → A := fun b => h (by
 rw [gh true (fun e => by subst e; simp at a)]; exact b)
end
theorem tE.at {α : Type} {e : TypeId} {enc : α → List Value} {k : Nat} {v : Value} {l : List α} {R : List (Nat × Obj)} (h : gI e enc k v l R) (hk : ∀ x, (enc x).length = k) {p : Value} {i : Nat} (hp : tE R k p i) {x : α} (c : l[i]? = some x) : At (uW R) p (enc x) := by
 obtain ⟨g', a, cap, rfl, rfl, _, _, _, _, rfl, b⟩ := sm h hk hp c
 exact ⟨g', i * k, a, e, (0, 0), rfl, by simp [uW], b⟩
theorem lz.form {κ β : Type} {kenc : κ → Value} {vf : β → Value} {μ : gT} {v : Value} {l : List (κ × β)} (h : lz kenc vf μ v l) : ∃ r, v = .map r := by
 rcases h with ⟨h, _⟩ | ⟨m, es, clock, h, _⟩
 ·exact ⟨_, h⟩
 ·exact ⟨_, h⟩
section
variable {P : Program} {W : World} {E : Nat → Value} {d : Option Nat} {ty : TypeId} {pos : String} {af : Array Edge} {g : Option (Nat × Bool)}
theorem Cz {c n : TypeId} {x y : Operand} {α β : Type} {fv : Value} {μ : gT} {av : α → List Value} {m : β → Value} {pm : α → Option β} {s u : Array TypeId} {i : Bool} (j : P.underlying c = some (.func s u i)) (h : qv P fv μ av m pm) (k : gv E x = fv) (l : gv E y = .nilFunc) :
  iB P E ⟨d, .binOp .eql c x y n, ty, pos, af, g⟩ W (.bool false) W := by
 obtain ⟨f, a, b, rfl⟩ := h.form
 exact Ak j k l
end
noncomputable def xj {β : Type} (l : List (ByteArray × β)) : Option (List ByteArray) :=
 open Classical in if (l.map (·.1)).Nodup ∧ (∀ p ∈ l, p.1.size ≤ maxLen) ∧ l.length * 16 ≤ 140737488355328 then some (iN (l.map (·.1))) else none
theorem oA.zip {κ γ : Type} {Q : Value → γ → List (Nat × Obj) → Prop} : ∀ {d : List (κ × Value)} {l : List (κ × γ)} {R : List (Nat × Obj)}, oA Q d l R →
  ∃ a : List (κ × (Value × γ)), a.map (fun p => (p.1, p.2.1)) = d ∧ a.map (fun p => (p.1, p.2.2)) = l ∧ ∀ p ∈ a, ∃ R1, Q p.2.1 p.2.2 R1 ∧ ∀ x ∈ R1, x ∈ R
 | [], [], R, _ => ⟨[], rfl, rfl, fun _ h => by cases h⟩
 | [], _ :: _, _, h => h.elim
 | _ :: _, [], _, h => h.elim
 | p :: d, q :: l, R, h => by
  obtain ⟨h1, R1, R2, rfl, k, m⟩ := h
  obtain ⟨a, g, i, j⟩ := oA.zip m
  refine ⟨(q.1, (p.2, q.2)) :: a, by simp [g, ← h1], by simp [i], fun x b => ?_⟩
  rcases ak.1 b with rfl | b
  ·exact ⟨R1, k, fun y c => aS _ c⟩
  ·obtain ⟨R3, n, o⟩ := j x b
   exact ⟨R3, n, fun y c => bB _ (o y c)⟩
theorem py.zip {κ κ2 β : Type} {kenc : κ → Value} {kenc2 : κ2 → Value} {vf : β → Value} {μ : gT} {v : Value} {l : List (κ × List (κ2 × β))} (h : py kenc (gV kenc2 vf) μ v l) :
  ∃ a : List (κ × (Value × List (κ2 × β))), a.map (fun p => (p.1, p.2.2)) = l ∧ lz kenc (fun x => x.1) μ v a ∧ ∀ p ∈ a, lz kenc2 vf μ p.2.1 p.2.2 := by
 obtain ⟨t, R, ⟨r, s, rfl, ⟨m, es, clock, rfl, rfl, c⟩, n⟩, d⟩ := h
 obtain ⟨a, g, i, j⟩ := n.zip
 refine ⟨a, i, .inr ⟨m, es, clock, rfl, d _ _ (by simp), ⟨?_, c.born, c.lt⟩⟩, fun p hp => ?_⟩
 ·rw [c.re, ← g]; simp
 ·obtain ⟨R1, h1, k⟩ := j p hp
  exact h1.at (fun b o q => d b o (bB _ (k _ q)))
theorem DR {α : Type} {a : Nat} {l m fs : List α} (h1 : fs.length * a ≤ 140737488355328) (b : fs.length ≤ maxLen) (h : (l ++ m).length ≤ fs.length) : jh a l m = some (l ++ m) := by
 rw [an] at h
 unfold jh
 rw [ar ⟨bk (aW _ h) h1, bk h b⟩]
end Go.Proofs.YtbnbdigcbldfhaaGreat
namespace Go.Proofs.YtbnbdigcbldfhaaGreat
open Go.RowKit
variable {dd : Bool}
section
variable {P : Program} {fn : Func} {R : Ending → World → Prop} {E : Nat → Value} {W : World}
theorem AS {a : Tmp} {t0 : TypeId} {a0 : Addr} {v0 : Value} {b : Tmp} {v1 : Value} (d : fn.results = #[.cell a t0, .tmp b]) (c : E a = .pointer (some a0)) (i : (Instr.loadAt t0 (.pointer (some a0))).run P W = .ok v0 W) (h1 : E b = v1) (h : R (.returned (.tuple #[v0, v1])) W) : pd P fn R .ret E W :=
 ⟨.tuple #[v0, v1], fun tmps g => by
  have j : (loadVar t0 a0).run P W = .ok v0 W := by simpa [Instr.loadAt, Instr.sureAddr] using i
  simp [results, d, g, asAddr, c, j, h1], h⟩
end
end Go.Proofs.YtbnbdigcbldfhaaGreat
namespace Go.Proofs.YtbnbdigcbldfhaaGreat
open Go.RowKit
variable [M : Md]
section
variable {x y : Nat × Obj} {A B C L R S : List (Nat × Obj)}
theorem Pz : (x :: A).Perm (x :: A) := .refl _
theorem Pb (h : A.Perm (x :: B)) : (y :: A).Perm (x :: y :: B) := (h.cons y).trans (.swap ..)
theorem Pr (h : A.Perm (x :: B)) : (S ++ A).Perm (x :: (S ++ B)) := (h.append_left S).trans cJ
theorem Qz : (R ++ A).Perm (R ++ A) := .refl _
theorem Qb (h : A.Perm (R ++ B)) : (y :: A).Perm (R ++ (y :: B)) := (h.cons y).trans List.perm_middle.symm
theorem Qr (h : A.Perm (R ++ B)) : (S ++ A).Perm (R ++ (S ++ B)) := (h.append_left S).trans (eK S R B)
def pf (L L' : List (Nat × Obj)) : Prop := ∃ M, L.Perm (L' ++ M)
theorem Sn : pf L [] := ⟨L, .refl _⟩
theorem St : pf L L := ⟨[], by rw [aX]⟩
theorem Sb (h : L.Perm (x :: A)) (k : pf A B) : pf L (x :: B) := let ⟨M, m⟩ := k; ⟨M, h.trans (m.cons x)⟩
theorem Sr (h : L.Perm (R ++ A)) (k : pf A B) : pf L (R ++ B) := let ⟨M, m⟩ := k; ⟨M, by rw [ay]; exact h.trans (m.append_left R)⟩
theorem Kb (k : pf A B) : pf (x :: A) (x :: B) := Sb Pz k
theorem Kr (k : pf A B) : pf (R ++ A) (R ++ B) := Sr Qz k
theorem Db (k : pf A B) : pf (x :: A) B := let ⟨M, m⟩ := k; ⟨x :: M, (m.cons x).trans List.perm_middle.symm⟩
theorem Dr (k : pf A B) : pf (R ++ A) B := let ⟨M, m⟩ := k; ⟨R ++ M, (m.append_left R).trans (eK R B M)⟩
theorem pf.mem (s : pf L A) : ∀ p, p ∈ A → p ∈ L := fun p hp => let ⟨M, m⟩ := s; m.mem_iff.2 (aS _ hp)
theorem ST.gq {dd : Bool} {F : Nat → Prop} {w W : World} {μ : gT} (h : ST dd F w W μ L) (s : pf L A) : ST dd F w W μ A := let ⟨M, m⟩ := s; (h.perm m).sublist (List.sublist_append_left A M)
theorem mu.gq {μ : gT} {W : World} (h : mu μ L W) (s : pf L A) : mu μ A W := h.sub (ig.refl _) s.mem
theorem mu.qP {μ μ' : gT} {W : World} (h : mu μ L W) (a : ig μ' μ) (s : pf L A) : mu μ' A W := h.sub a s.mem
theorem Cn : L.Perm ([] ++ L) := .refl _
theorem Cb (h : L.Perm (x :: A)) (k : A.Perm (B ++ C)) : L.Perm ((x :: B) ++ C) := h.trans (k.cons x)
theorem Cr (h : L.Perm (R ++ A)) (k : A.Perm (B ++ C)) : L.Perm ((R ++ B) ++ C) := by rw [ay]; exact h.trans (k.append_left R)
theorem C0 (k : L.Perm (B ++ C)) : L.Perm (([] ++ B) ++ C) := k
theorem Tn : ([] ++ A).Perm A := .refl _
theorem Tb (h : (A ++ B).Perm C) : ((x :: A) ++ B).Perm (x :: C) := h.cons x
theorem Tr (h : (A ++ B).Perm C) : ((R ++ A) ++ B).Perm (R ++ C) := by rw [ay]; exact h.append_left R
theorem Nb (h : L.Perm (x :: A)) (k : A.Perm B) : L.Perm (x :: B) := h.trans (k.cons x)
theorem Nr (h : L.Perm (R ++ A)) (k : A.Perm B) : L.Perm (R ++ B) := h.trans (k.append_left R)
theorem Nz : L.Perm L := .refl _
theorem F7 {R' R1 : List (Nat × Obj)} (hp : R.Perm (R' ++ R1)) : (R ++ A).Perm (R' ++ (R1 ++ A)) := by rw [← ay]; exact hp.append_right A
theorem Mh : x ∈ x :: A := .head _
theorem Mt (h : x ∈ A) : x ∈ y :: A := .tail _ h
theorem Ma (h : x ∈ A) : x ∈ R ++ A := bB _ h
theorem Ml (h : x ∈ R) : x ∈ R ++ A := aS _ h
end
section
variable {dd : Bool} {F : Nat → Prop} {w W : World} {μ : gT} {L L0 L1 Y R : List (Nat × Obj)}
theorem ST.yG (h : ST dd gN w W μ L) (s : pf L L1) : nD dd [] L1 w W := let ⟨_, m⟩ := s; (h.perm m).FB
theorem ST.oa (h : ST dd (keys L0) w W μ L) (s : pf L L1) : nD dd L0 L1 w W := let ⟨_, m⟩ := s; (h.perm m).yY
theorem ST.B3 : ∀ {R : List (Nat × Obj)} {μ : gT}, ST dd F w W μ (R ++ Y) → ∃ μ', ST dd F w W μ' Y ∧ ig μ μ' ∧ Lo F w μ μ' ∧ ∀ b o, (b, o) ∈ R → μ' b = some o
 | [], μ, h => ⟨μ, h, ig.refl _, Lo.refl, fun _ _ h => by cases h⟩
 | (g, o) :: R, μ, h => by
  have c : ST dd F w W μ ([] ++ (g, o) :: (R ++ Y)) := h
  obtain ⟨μ', d, a2, a3, a4⟩ := ST.B3 (R := R) (ST.xT (A := []) c)
  refine ⟨μ', d, (ST.xR (A := []) c).trans a2, (ST.Ch (A := []) c).trans a3, fun b o' a => ?_⟩
  rcases ak.1 a with a | a
  ·cases a; exact a2 _ _ (ar rfl)
  ·exact a4 b o' a
theorem ST.zZ {α : Type} {e' : TypeId} {enc : α → List Value} {k : Nat} {v : Value} {l : List α} (a : ST dd F w W μ (R ++ Y)) (h : gI e' enc k v l R) (hk : ∀ x, (enc x).length = k) : ∃ μ', ST dd F w W μ' Y ∧ ig μ μ' ∧ Lo F w μ μ' ∧ Sl (Pl enc) k μ' v l := by
 obtain ⟨μ', b, a2, a3, a4⟩ := ST.B3 a
 exact ⟨μ', b, a2, a3, h.sl hk a4⟩
section
variable {P : Program} {n : Nat} {Q : km} {E : Nat → Value} {V : World} {id : Nat} {l : List Oper} {A B C : List (Nat × Obj)}
theorem iy (b : mu μ A V.drew) (hm : P.follows .mixedOrders = true) (h : PX P n l.toArray Q (fun _ W => mu μ A W) l.length (Array.replicate l.length false) E V.drew) (a : Bs l = true := by kernel_rfl) : CW P n (.region id l.toArray true) Q E V := zo _ hm h a
theorem ta (i : Nat) (b : mu μ A V.drew) (h1 : mu μ B V.drew) (hm : P.follows .mixedOrders = true) (h : PX P n l.toArray Q (fun l W => mu μ A W ∧ (l.getD i true = false → mu μ B W)) l.length (Array.replicate l.length false) E V.drew) (a : Bs l = true := by kernel_rfl) : CW P n (.region id l.toArray true) Q E V := zo _ hm h a
end
structure pN (μ : gT) (L0 : List (Nat × Obj)) (w : World) : Prop where
 H : vd L0 w
 N : (L0.map (·.1)).Nodup
 S : ig μ (oW w L0)
theorem ST.Co (h : pN μ L0 w) : ST dd (keys L0) w w μ L0 := (ST.Cc h.H h.N).kC h.S
theorem CV {P : Program} {fn : Func} {R : Ending → World → Prop} {E : Nat → Value} {W : World} (h : pd P fn R .ret E W) : pd P fn R .normal E W := h
end
section
variable {dd : Bool} {P : Program} {E : Nat → Value} {W : World} {d : Option Nat} {ty : TypeId} {pos : String} {af : Array Edge} {g : Option (Nat × Bool)} {F : Nat → Prop} {w : World} {μ : gT} {L : List (Nat × Obj)}
theorem gO {K : Value → World → Prop} {B : List (Nat × Obj)} {t : TypeId} {x y : Operand} (v : Value) {b off : Nat} {cs : Array Value} {T : TypeId} (a : Array Value) (c : ST dd F w W μ ((b, .cells cs T (0, 0)) :: B)) (l : gv E x = .pointer (some ⟨b, off, none⟩)) (m : gv E y = v) (i : ∀ w, (sizeOf t).run P w = .ok v.cells.size w) (h1 : ∀ u ∈ v.cells.toList, u.oneCell' = true) (k : off + v.cells.size ≤ cs.size) (j : (cs.toList.take off ++ v.cells.toList ++ cs.toList.drop (off + v.cells.size)).toArray = a) (h : ∀ W', ST dd F w W' μ ((b, .cells a T (0, 0)) :: B) → K undef W') : jx P E ⟨d, .store t x y, ty, pos, af, g⟩ W K := vR [] v a c l m i h1 k j h
end
section
variable {dd : Bool}
variable {P : Program} {n : Nat} {Q : km} {E : Nat → Value} {W : World} {ops : Array Oper} {rest : List Oper}
 {d : Option Nat} {ty : TypeId} {pos : String} {af : Array Edge} {g : Option (Nat × Bool)}
 {F : Nat → Prop} {w : World} {μ : gT} {L : List (Nat × Obj)}
theorem jn {K : Value → World → Prop} {α : Type} {e t : TypeId} {enc : α → List Value} {k a : Nat} {z v vs : Value} {l m r : List α} {R Y : List (Nat × Obj)} {x y : Operand} {i : TypeInfo} (b : ST dd F w W μ (R ++ Y)) (hk : ∀ x, (enc x).length = k) (j : 0 < k) (h1 : ∀ x, ∀ u ∈ enc x, u.oneCell' = true) (I : P.underlying t = some (.slice e)) (A : P.info? e = some i) (M : i.zero = some z) (o : z.cells.size = k) (n : i.size = k) (c : i.bytes = a) (J : gv E x = v) (L : gv E y = vs) (q : gI e enc k v l R) (G : Sl (Pl enc) k (hp W) vs m) (s : jh a l m = some r) (h : ∀ W' p R', ST dd F w W' μ (R' ++ Y) → gI e enc k p r R' → K p W') : jx P E ⟨d, .call ⟨.builtin .append, #[x, y], #[t, t]⟩, ty, pos, af, g⟩ W K :=
 wL [] b hk j h1 I A M o n c J L q G s h
end
section
variable {dd : Bool}
variable {P : Program} {E : Nat → Value} {W : World} {d : Option Nat} {ty : TypeId} {pos : String} {af : Array Edge} {g : Option (Nat × Bool)}
 {F : Nat → Prop} {w : World} {μ : gT} {L : List (Nat × Obj)}
theorem xd {K : Value → World → Prop} {α : Type} {e : TypeId} {enc : α → List Value} {k : Nat} {l : List α} {f : FuncId} {fv : Operand} {ax : Array Operand} {ats : Array TypeId} {caps : Array Value} {args : List Value} (Y : List (Nat × Obj)) (a : ST dd F w W μ Y) (i : gv E fv = .func (.func f) #[] caps) (he : ∀ args w, (callFunc f args).run P w = .ok (.enter f args) w) (b : ax.map (gv E) ++ caps = args.toArray) (c : iz dd P f args W e enc k l) (h : ∀ W' v μ' R, ST dd F w W' μ' (R ++ Y) → ig μ μ' → Lo F w μ μ' → gI e enc k v l R → K v W') : jx P E ⟨d, .call ⟨.value fv, ax, ats⟩, ty, pos, af, g⟩ W K :=
 Bv [] Y a i he b c h
end
section
variable {dd : Bool}
variable {P : Program} {E : Nat → Value} {W : World} {d : Option Nat} {ty : TypeId} {pos : String} {af : Array Edge} {g : Option (Nat × Bool)}
 {F : Nat → Prop} {w : World} {μ : gT} {L : List (Nat × Obj)} {α : Type} {e' : TypeId} {enc : α → List Value} {k : Nat} {v : Value} {l : List α} {R : List (Nat × Obj)}
theorem ua {K : Value → World → Prop} {Y : List (Nat × Obj)} {t : TypeId} {x y : Operand} {p u : Value} {i : Nat} {x0 x1 : α} (a : ST dd F w W μ (R ++ Y)) (h : gI e' enc k v l R) (hk : ∀ x, (enc x).length = k) (h1 : ∀ x, ∀ u ∈ enc x, u.oneCell' = true) (m : gv E x = p) (n : gv E y = u) (hu : u.cells = (enc x1).toArray) (hp : tE R k p i) (j : l[i]? = some x0) (c : ∀ w, (sizeOf t).run P w = .ok k w) (b : ∀ W' R', ST dd F w W' μ (R' ++ Y) → gI e' enc k v (l.set i x1) R' → K undef W') : jx P E ⟨d, .store t x y, ty, pos, af, g⟩ W K :=
 BD [] a h hk h1 m n hu hp j c b
end
section
variable {dd : Bool}
variable {P : Program} {W : World} {κ : Type} {kt : TypeId} {kenc : κ → Value} {beq : κ → κ → Bool}
variable {β : Type} {vf : β → Value} {E : Nat → Value} {d : Option Nat} {ty : TypeId} {pos : String} {af : Array Edge} {g : Option (Nat × Bool)} {F : Nat → Prop} {w : World} {μ : gT} {L : List (Nat × Obj)}
theorem we {c : Value → World → Prop} {Y R : List (Nat × Obj)} {t e : TypeId} {m x y : Operand} {b : Value} {l : List (κ × β)} {k : κ} {v : β} (K : jI P kt kenc beq) (j : P.underlying t = some (.map kt e)) (a : ST dd F w W μ (R ++ Y)) (h : gV kenc vf b l R) (hm : gv E m = b) (n : gv E x = kenc k) (o : gv E y = vf v) (i : ∀ W' R', ST dd F w W' μ (R' ++ Y) → gV kenc vf b (iQ beq l k v) R' → c undef W') : jx P E ⟨d, .mapUpdate t m x y, ty, pos, af, g⟩ W c :=
 qZ [] K j a h hm n o i
end
section
variable {dd : Bool}
variable {P : Program} {E : Nat → Value} {W : World} {d : Option Nat} {ty : TypeId} {pos : String} {af : Array Edge} {g : Option (Nat × Bool)}
 {F : Nat → Prop} {w : World} {μ : gT} {L : List (Nat × Obj)} {α : Type} {e' : TypeId} {enc : α → List Value} {k : Nat} {v : Value} {l : List α} {R : List (Nat × Obj)}
theorem tB {K : Value → World → Prop} (z : α) {Y : List (Nat × Obj)} {t e : TypeId} {x : Operand} {u b : Value} {i : Nat} (a : ST dd F w W μ (R ++ Y)) (h : gI e' enc k v l R) (hk : ∀ x, (enc x).length = k) (h1 : ∀ x, ∀ u ∈ enc x, u.oneCell' = true) (m : P.underlying t = some (.slice e)) (o : ∀ w, (zeroValue e).run P w = .ok b w) (hu : xB k v i u) (j : b.cells = (enc z).toArray) (n : gv E x = u) (c : ∀ W' R', ST dd F w W' μ (R' ++ Y) → gI e' enc k v (lI l i z) R' → K (.tuple #[]) W') : jx P E ⟨d, .call ⟨.builtin .clear, #[x], #[t]⟩, ty, pos, af, g⟩ W K :=
 Az z [] a h hk h1 m o hu j n c
end
section
variable {dd : Bool}
variable {κ γ : Type} {Q : Value → γ → List (Nat × Obj) → Prop} {beq : κ → κ → Bool} {kenc : κ → Value}
variable {P : Program} {W : World} {kt : TypeId} {E : Nat → Value} {d : Option Nat} {ty : TypeId} {pos : String} {af : Array Edge} {g : Option (Nat × Bool)} {F : Nat → Prop} {w : World} {μ : gT} {L : List (Nat × Obj)}
variable {κ2 β : Type} {kenc2 : κ2 → Value} {vf : β → Value} {beq2 : κ2 → κ2 → Bool} {kt2 : TypeId}
theorem BR {c : Value → World → Prop} {Y R : List (Nat × Obj)} {t e : TypeId} {m x y : Operand} {n : Value} {b : List (κ × Value)} {l j : List (κ × List (κ2 × β))} {k : κ} {i : κ2} {v : β} (hk : ∀ {x y : κ}, beq x y = true → x = y) (K : jI P kt2 kenc2 beq2) (q : P.underlying t = some (.map kt2 e)) (a : ST dd F w W μ (R ++ Y)) (h : iY kenc (gV kenc2 vf) n b l R) (hm : gv E m = lW beq b k (.map none)) (r : gv E x = kenc2 i) (s : gv E y = vf v) (p : wR beq beq2 l k i v = some j) (o : ∀ W' R', ST dd F w W' μ (R' ++ Y) → iY kenc (gV kenc2 vf) n b j R' → c undef W') : jx P E ⟨d, .mapUpdate t m x y, ty, pos, af, g⟩ W c :=
 Cv [] hk K q a h hm r s p o
end
section
variable {dd : Bool}
variable {κ γ : Type} {Q : Value → γ → List (Nat × Obj) → Prop} {beq : κ → κ → Bool} {kenc : κ → Value}
variable {P : Program} {W : World} {kt : TypeId} {E : Nat → Value} {d : Option Nat} {ty : TypeId} {pos : String} {af : Array Edge} {g : Option (Nat × Bool)} {F : Nat → Prop} {w : World} {μ : gT} {L : List (Nat × Obj)}
variable {κ2 β : Type} {kenc2 : κ2 → Value} {vf : β → Value} {beq2 : κ2 → κ2 → Bool} {kt2 : TypeId}
theorem CG {c : Value → World → Prop} {Y R R2 : List (Nat × Obj)} {t e : TypeId} {m x y : Operand} {b : Value} {j : List (κ × Value)} {l i : List (κ × γ)} {k : κ} {u : Value} {z : γ} (K : jI P kt kenc beq) (q : P.underlying t = some (.map kt e)) (a : ST dd F w W μ (R ++ (R2 ++ Y))) (h : iY kenc Q b j l R) (hm : gv E m = b) (r : gv E x = kenc k) (s : gv E y = u) (p : Q u z R2) (o : wV beq l k z = some i) (n : ∀ W' R', ST dd F w W' μ (R' ++ Y) → iY kenc Q b (iQ beq j k u) i R' → c undef W') : jx P E ⟨d, .mapUpdate t m x y, ty, pos, af, g⟩ W c :=
 B8 [] K q a h hm r s p o n
end
section
variable {dd : Bool}
variable {κ γ : Type} {Q : Value → γ → List (Nat × Obj) → Prop} {beq : κ → κ → Bool} {kenc : κ → Value}
variable {P : Program} {W : World} {kt : TypeId} {E : Nat → Value} {d : Option Nat} {ty : TypeId} {pos : String} {af : Array Edge} {g : Option (Nat × Bool)} {F : Nat → Prop} {w : World} {μ : gT} {L : List (Nat × Obj)}
theorem EP {c : Value → World → Prop} {Y R R1 : List (Nat × Obj)} {t e : TypeId} {m x y : Operand} {b : Value} {i : List (κ × Value)} {l : List (κ × γ)} {k : κ} {u : Value} {z : γ} (K : jI P kt kenc beq) (o : P.underlying t = some (.map kt e)) (a : ST dd F w W μ (R ++ (R1 ++ Y))) (h : Bw beq kenc Q b i l k R) (hm : gv E m = b) (p : gv E x = kenc k) (q : gv E y = u) (n : Q u z R1) (j : ∀ W' R', ST dd F w W' μ (R' ++ Y) → iY kenc Q b (iQ beq i k u) (iQ beq l k z) R' → c undef W') : jx P E ⟨d, .mapUpdate t m x y, ty, pos, af, g⟩ W c :=
 EY [] K o a h hm p q n j
end
section
variable {dd : Bool}
variable {κ γ : Type} {Q : Value → γ → List (Nat × Obj) → Prop} {beq : κ → κ → Bool} {kenc : κ → Value}
variable {P : Program} {W : World} {kt : TypeId} {E : Nat → Value} {d : Option Nat} {ty : TypeId} {pos : String} {af : Array Edge} {g : Option (Nat × Bool)} {F : Nat → Prop} {w : World} {μ : gT} {L : List (Nat × Obj)}
theorem BH {i : Value → World → Prop} {Y R : List (Nat × Obj)} {t e : TypeId} {m x : Operand} {c z : Value} {x0 : γ} {q : List (κ × Value)} {l : List (κ × γ)} {k : κ} (hk : ∀ {x y : κ}, beq x y = true ↔ x = y) (K : jI P kt kenc beq) (n : P.underlying t = some (.map kt e)) (p : ∀ w, (zeroValue e).run P w = .ok z w) (b : Q z x0 []) (a : ST dd F w W μ (R ++ Y)) (h : iY kenc Q c q l R) (hm : gv E m = c) (o : gv E x = kenc k) (j : ∀ W' v st R' R1, ST dd F w W' μ (R' ++ (R1 ++ Y)) → Q v ((gQ beq l k).getD x0) R1 → y9 beq kenc Q c l k st R' → i (.tuple #[v, .int .i64 (st : Nat)]) W') : jx P E ⟨d, .mapEntry t m x, ty, pos, af, g⟩ W i :=
 Bd [] hk K n p b a h hm o j
end
section
variable {dd : Bool}
variable {κ γ : Type} {Q : Value → γ → List (Nat × Obj) → Prop} {beq : κ → κ → Bool} {kenc : κ → Value}
variable {P : Program} {W : World} {kt : TypeId} {E : Nat → Value} {d : Option Nat} {ty : TypeId} {pos : String} {af : Array Edge} {g : Option (Nat × Bool)} {F : Nat → Prop} {w : World} {μ : gT} {L : List (Nat × Obj)}
theorem z8 {i : Value → World → Prop} {Y R R1 : List (Nat × Obj)} {t e : TypeId} {m s y : Operand} {c u : Value} {z : γ} {l : List (κ × γ)} {k : κ} {st : Nat} (hk : ∀ {x y : κ}, beq x y = true ↔ x = y) (K : jI P kt kenc beq) (a : ST dd F w W μ (R ++ (R1 ++ Y))) (h : y9 beq kenc Q c l k st R) (hm : gv E m = c) (o : gv E s = .int .i64 (st : Nat)) (p : gv E y = u) (n : Q u z R1) (j : ∀ W' b R', ST dd F w W' μ (R' ++ Y) → iY kenc Q c b (iQ beq l k z) R' → i undef W') : jx P E ⟨d, .entryStore t m s y, ty, pos, af, g⟩ W i :=
 Aa (e := e) [] hk K a h hm o p n j
end
section
variable {dd : Bool}
variable {α : Type} {e : TypeId} {enc : α → List Value} {k : Nat} {v : Value} {l : List α} {R : List (Nat × Obj)}
variable {P : Program} {W : World} {E : Nat → Value} {d : Option Nat} {ty : TypeId} {pos : String} {af : Array Edge} {g : Option (Nat × Bool)} {F : Nat → Prop} {w : World} {μ : gT} {L : List (Nat × Obj)}
theorem Ap {K : Value → World → Prop} {t : TypeId} {a : Nat} {z vs : Value} {m r : List α} {Y : List (Nat × Obj)} {x y : Operand} {i : TypeInfo} (b : ST dd F w W μ (R ++ Y)) (hk : ∀ x, (enc x).length = k) (j : 0 < k) (h1 : ∀ x, ∀ u ∈ enc x, u.oneCell' = true) (I : P.underlying t = some (.slice e)) (A : P.info? e = some i) (M : i.zero = some z) (o : z.cells.size = k) (n : i.size = k) (c : i.bytes = a) (J : gv E x = v) (L : gv E y = vs) (q : lk e enc k v l R) (G : Sl (Pl enc) k (hp W) vs m) (s : jh a l m = some r) (h : ∀ W' p R', ST dd F w W' μ (R' ++ Y) → lk e enc k p r R' → K p W') : jx P E ⟨d, .call ⟨.builtin .append, #[x, y], #[t, t]⟩, ty, pos, af, g⟩ W K :=
 An [] b hk j h1 I A M o n c J L q G s h
end
end Go.Proofs.YtbnbdigcbldfhaaGreat
namespace Go.Proofs.YtbnbdigcbldfhaaGreat
open Go.RowKit
variable [M : Md]
section
variable {P : Program} {n : Nat} {Q : km} {E : Nat → Value} {W : World} {ops : Array Oper} {rest : List Oper}
variable {d j t : Nat} {want : Bool} {v : Value} {ins : Go.Op} {ty : TypeId} {pos : String} {af : Array Edge} {A : Value → Prop}
theorem V (b : iB P E ⟨some d, ins, ty, pos, af, none⟩ W v W) (h : LW P n ops Q rest (jC E d v) W) (a : d < n := by decide) : LW P n ops Q (⟨some d, ins, ty, pos, af, none⟩ :: rest) E W := yh (.inl rfl) rfl a b h
theorem VE (h : jx P E ⟨some d, ins, ty, pos, af, none⟩ W fun v W' => LW P n ops Q rest (jC E d v) W') (a : d < n := by decide) : LW P n ops Q (⟨some d, ins, ty, pos, af, none⟩ :: rest) E W := EV (.inl rfl) rfl a h
theorem VO (h : jx P E ⟨none, ins, ty, pos, af, none⟩ W fun _ W' => LW P n ops Q rest E W') : LW P n ops Q (⟨none, ins, ty, pos, af, none⟩ :: rest) E W := Fo (.inl rfl) rfl h
theorem VQ (b : ∃ p, A p ∧ ∀ W, iB P E ⟨some d, ins, ty, pos, af, none⟩ W p W) (h : ∀ p, A p → LW P n ops Q rest (jC E d p) W) (a : d < n := by decide) : LW P n ops Q (⟨some d, ins, ty, pos, af, none⟩ :: rest) E W := Fh (.inl rfl) rfl a b h
theorem Vg (b : (ops[j]?).bind (·.dst) = some t) (a : E t = .bool want) (g : iB P E ⟨some d, ins, ty, pos, af, some (j, want)⟩ W v W) (h : LW P n ops Q rest (jC E d v) W) (i : t < n := by decide) (c : d < n := by decide) : LW P n ops Q (⟨some d, ins, ty, pos, af, some (j, want)⟩ :: rest) E W := yh (.inr ⟨j, want, t, rfl, b, i, a⟩) rfl c g h
theorem E4 (b : (ops[j]?).bind (·.dst) = some t) (a : E t = .bool want) (h : jx P E ⟨some d, ins, ty, pos, af, some (j, want)⟩ W fun v W' => LW P n ops Q rest (jC E d v) W') (g : t < n := by decide) (c : d < n := by decide) : LW P n ops Q (⟨some d, ins, ty, pos, af, some (j, want)⟩ :: rest) E W := EV (.inr ⟨j, want, t, rfl, b, g, a⟩) rfl c h
theorem F8 (b : (ops[j]?).bind (·.dst) = some t) (a : E t = .bool want) (g : ∃ p, A p ∧ ∀ W, iB P E ⟨some d, ins, ty, pos, af, some (j, want)⟩ W p W) (h : ∀ p, A p → LW P n ops Q rest (jC E d p) W) (i : t < n := by decide) (c : d < n := by decide) : LW P n ops Q (⟨some d, ins, ty, pos, af, some (j, want)⟩ :: rest) E W := Fh (.inr ⟨j, want, t, rfl, b, i, a⟩) rfl c g h
theorem Vn (b : (ops[j]?).bind (·.dst) = some t) (a : E t = .bool (!want)) (h : LW P n ops Q rest (jC E d undef) W) (g : t < n := by decide) (c : d < n := by decide) : LW P n ops Q (⟨some d, ins, ty, pos, af, some (j, want)⟩ :: rest) E W := Ft rfl c rfl b g a h
theorem Vu (b : (ops[j]?).bind (·.dst) = some t) (a : E t = undef) (h : LW P n ops Q rest (jC E d undef) W) (g : t < n := by decide) (c : d < n := by decide) : LW P n ops Q (⟨some d, ins, ty, pos, af, some (j, want)⟩ :: rest) E W := EA rfl c rfl b g a h
end
section
variable {P : Program} {n : Nat} {Q : km} {E : Nat → Value} {W : World} {ops : Array Oper} {S : Array Bool → World → Prop} {fuel : Nat} {listed : Array Bool} {μ : gT} {B : List (Nat × Obj)}
variable {d j t : Nat} {want : Bool} {v : Value} {ins : Go.Op} {ty : TypeId} {pos : String} {af : Array Edge} {A : Value → Prop}
theorem X (i : Nat) (b : ops[i]? = some ⟨some d, ins, ty, pos, af, none⟩) (a : S (listed.setIfInBounds i true) W) (g : ∀ {W}, iB P E ⟨some d, ins, ty, pos, af, none⟩ W v W) (h : PX P n ops Q S fuel (listed.setIfInBounds i true) (jC E d v) W) (hk : sQ ops listed i = true := by kernel_rfl) (hm : ∀ l w, S (l.setIfInBounds i true) w → S l w := by exact fun _ _ h => h) (c : d < n := by decide) : PX P n ops Q S (fuel + 1) listed E W := jH i b hk (.inl rfl) rfl c hm a (fun _ _ _ _ => g) h
theorem XH (i : Nat) (b : ops[i]? = some ⟨some d, ins, ty, pos, af, none⟩) (a : mu μ B W) (g : ∀ W, mu μ B W → iB P E ⟨some d, ins, ty, pos, af, none⟩ W v W) (h : PX P n ops Q (fun _ W => mu μ B W) fuel (listed.setIfInBounds i true) (jC E d v) W) (hk : sQ ops listed i = true := by kernel_rfl) (c : d < n := by decide) : PX P n ops Q (fun _ W => mu μ B W) (fuel + 1) listed E W := jH i b hk (.inl rfl) rfl c (fun _ _ h => h) a (fun _ W _ h => g W h) h
theorem XQ (i : Nat) (b : ops[i]? = some ⟨some d, ins, ty, pos, af, none⟩) (a : S (listed.setIfInBounds i true) W) (g : ∃ p, A p ∧ ∀ W, iB P E ⟨some d, ins, ty, pos, af, none⟩ W p W) (h : ∀ p, A p → PX P n ops Q S fuel (listed.setIfInBounds i true) (jC E d p) W) (hk : sQ ops listed i = true := by kernel_rfl) (hm : ∀ l w, S (l.setIfInBounds i true) w → S l w := by exact fun _ _ h => h) (c : d < n := by decide) : PX P n ops Q S (fuel + 1) listed E W := um i b hk (.inl rfl) rfl c hm a g h
theorem XE (i : Nat) (a : ops[i]? = some ⟨some d, ins, ty, pos, af, none⟩) (h : jx P E ⟨some d, ins, ty, pos, af, none⟩ W fun v W' => S (listed.setIfInBounds i true) W' ∧ PX P n ops Q S fuel (listed.setIfInBounds i true) (jC E d v) W') (c : Region.ready .any ops listed = [i] := by kernel_rfl) (b : d < n := by decide) : PX P n ops Q S (fuel + 1) listed E W := E9 i a c (.inl rfl) rfl b h
theorem XO (i : Nat) (a : ops[i]? = some ⟨none, ins, ty, pos, af, none⟩) (h : jx P E ⟨none, ins, ty, pos, af, none⟩ W fun _ W' => S (listed.setIfInBounds i true) W' ∧ PX P n ops Q S fuel (listed.setIfInBounds i true) E W') (b : Region.ready .any ops listed = [i] := by kernel_rfl) : PX P n ops Q S (fuel + 1) listed E W := FA i a b (.inl rfl) rfl h
theorem Xg (i : Nat) (c : ops[i]? = some ⟨some d, ins, ty, pos, af, some (j, want)⟩) (g : (ops[j]?).bind (·.dst) = some t) (a : E t = .bool want) (b : S (listed.setIfInBounds i true) W) (o : ∀ {W}, iB P E ⟨some d, ins, ty, pos, af, some (j, want)⟩ W v W) (h : PX P n ops Q S fuel (listed.setIfInBounds i true) (jC E d v) W) (hk : sQ ops listed i = true := by kernel_rfl) (hm : ∀ l w, S (l.setIfInBounds i true) w → S l w := by exact fun _ _ h => h) (m : t < n := by decide) (k : d < n := by decide) : PX P n ops Q S (fuel + 1) listed E W := jH i c hk (.inr ⟨j, want, t, rfl, g, m, a⟩) rfl k hm b (fun _ _ _ _ => o) h
theorem nn (i : Nat) (c : ops[i]? = some ⟨some d, ins, ty, pos, af, some (j, want)⟩) (g : (ops[j]?).bind (·.dst) = some t) (a : E t = .bool want) (b : mu μ B W) (m : ∀ W, mu μ B W → iB P E ⟨some d, ins, ty, pos, af, some (j, want)⟩ W v W) (h : PX P n ops Q (fun _ W => mu μ B W) fuel (listed.setIfInBounds i true) (jC E d v) W) (hk : sQ ops listed i = true := by kernel_rfl) (l : t < n := by decide) (k : d < n := by decide) : PX P n ops Q (fun _ W => mu μ B W) (fuel + 1) listed E W := jH i c hk (.inr ⟨j, want, t, rfl, g, l, a⟩) rfl k (fun _ _ h => h) b (fun _ W _ h => m W h) h
theorem uG (i : Nat) (b : ops[i]? = some ⟨some d, ins, ty, pos, af, some (j, want)⟩) (c : (ops[j]?).bind (·.dst) = some t) (a : E t = .bool want) (h : jx P E ⟨some d, ins, ty, pos, af, some (j, want)⟩ W fun v W' => S (listed.setIfInBounds i true) W' ∧ PX P n ops Q S fuel (listed.setIfInBounds i true) (jC E d v) W') (k : Region.ready .any ops listed = [i] := by kernel_rfl) (l : t < n := by decide) (g : d < n := by decide) : PX P n ops Q S (fuel + 1) listed E W := E9 i b k (.inr ⟨j, want, t, rfl, c, l, a⟩) rfl g h
theorem Xn (i : Nat) (c : ops[i]? = some ⟨some d, ins, ty, pos, af, some (j, want)⟩) (g : (ops[j]?).bind (·.dst) = some t) (a : E t = .bool (!want)) (b : S (listed.setIfInBounds i true) W) (h : PX P n ops Q S fuel (listed.setIfInBounds i true) (jC E d undef) W) (hk : sQ ops listed i = true := by kernel_rfl) (hm : ∀ l w, S (l.setIfInBounds i true) w → S l w := by exact fun _ _ h => h) (m : t < n := by decide) (k : d < n := by decide) : PX P n ops Q S (fuel + 1) listed E W := Fu i c hk rfl g m a rfl k hm b h
theorem Xu (i : Nat) (c : ops[i]? = some ⟨some d, ins, ty, pos, af, some (j, want)⟩) (g : (ops[j]?).bind (·.dst) = some t) (a : E t = undef) (b : S (listed.setIfInBounds i true) W) (h : PX P n ops Q S fuel (listed.setIfInBounds i true) (jC E d undef) W) (hk : sQ ops listed i = true := by kernel_rfl) (hm : ∀ l w, S (l.setIfInBounds i true) w → S l w := by exact fun _ _ h => h) (m : t < n := by decide) (k : d < n := by decide) : PX P n ops Q S (fuel + 1) listed E W := EU i c hk rfl g m a rfl k hm b h
end
end Go.Proofs.YtbnbdigcbldfhaaGreat
namespace Go.Proofs.YtbnbdigcbldfhaaGreat
open Go.RowKit
section
variable {α β γ : Type}
inductive nU (Q : α → β → Prop) : List α → List β → Prop
 | nil : nU Q [] []
 | cons {a : α} {b : β} {l : List α} {m : List β} : Q a b → nU Q l m → nU Q (a :: l) (b :: m)
namespace nU
variable {Q Q' : α → β → Prop}
theorem length {l : List α} {m : List β} (h : nU Q l m) : l.length = m.length := by
 induction h with
 | nil => rfl
 | cons _ _ ih => simp [ih]
theorem imp {l : List α} {m : List β} (h : nU Q l m) (c : ∀ a b, Q a b → Q' a b) : nU Q' l m := by
 induction h with
 | nil => exact .nil
 | cons h1 _ ih => exact .cons (c _ _ h1) ih
theorem get {l : List α} {m : List β} (h : nU Q l m) : ∀ {i : Nat} {b : β}, m[i]? = some b → ∃ a, l[i]? = some a ∧ Q a b := by
 induction h with
 | nil => intro i b c; simp at c
 | cons h1 _ ih =>
  intro i b c
  cases i with
  | zero => simp at c; subst c; exact ⟨_, rfl, h1⟩
  | succ i => simpa using ih (by simpa using c)
theorem append {l a : List α} {m b : List β} (h : nU Q l m) (c : nU Q a b) : nU Q (l ++ a) (m ++ b) := by
 induction h with
 | nil => exact c
 | cons h1 _ ih => exact .cons h1 ih
theorem set {l : List α} {m : List β} (h : nU Q l m) {a : α} {b : β} (d : Q a b) : ∀ i : Nat, nU Q (l.set i a) (m.set i b) := by
 induction h with
 | nil => intro i; exact .nil
 | cons h1 c ih =>
  intro i
  cases i with
  | zero => exact .cons d c
  | succ i => exact .cons h1 (ih i)
theorem take {l : List α} {m : List β} (h : nU Q l m) : ∀ i : Nat, nU Q (l.take i) (m.take i) := by
 induction h with
 | nil => intro i; simp; exact .nil
 | cons h1 _ ih =>
  intro i
  cases i with
  | zero => exact .nil
  | succ i => exact .cons h1 (ih i)
theorem drop {l : List α} {m : List β} (h : nU Q l m) : ∀ i : Nat, nU Q (l.drop i) (m.drop i) := by
 induction h with
 | nil => intro i; simp; exact .nil
 | cons h1 a ih =>
  intro i
  cases i with
  | zero => exact .cons h1 a
  | succ i => exact ih i
end nU
end
structure Deep {β : Type} (R : pJ β) (k : Nat) : Prop where
 mono : Bn R
 len : ∀ {μ ys x}, R μ ys x → ys.length = k
 one : ∀ {μ ys x}, R μ ys x → ∀ u ∈ ys, u.oneCell' = true
abbrev xv (k : Nat) := {a : List Value // a.length = k ∧ ∀ u ∈ a, u.oneCell' = true}
def ub {k : Nat} (c : xv k) : List Value := c.1
theorem EC {k : Nat} (x : xv k) : (ub x).length = k := x.2.1
section
variable {β : Type} {Rl : pJ β} {k : Nat} {μ μ' : gT} {v : Value} {l : List β}
def Deep.cell (a : Deep Rl k) {b : List Value} {x : β} (h : Rl μ b x) : xv k := ⟨b, a.len h, a.one h⟩
theorem Sl.imp {R R' : pJ β} (h : Sl R k μ v l) (q : ∀ a x, R μ a x → R' μ a x) : Sl R' k μ v l := by
 obtain ⟨A, c, rfl, h1, d, g⟩ := h
 refine ⟨A, c, rfl, h1, d, fun r => ?_⟩
 obtain ⟨b, off, cs, T, fr, rfl, p, j⟩ := g r
 exact ⟨b, off, cs, T, fr, rfl, p, fun i x s => let ⟨a, m, n, o⟩ := j i x s; ⟨a, m, q _ _ n, o⟩⟩
variable {e : TypeId} {B : List (Nat × Obj)}
end
end Go.Proofs.YtbnbdigcbldfhaaGreat
namespace Go.Proofs.YtbnbdigcbldfhaaGreat
open Go.RowKit
variable [M : Md]
section
variable {dd : Bool}
variable {β : Type} {Rl : pJ β} {k : Nat} {μ : gT} {v : Value} {l : List β} {e : TypeId} {B : List (Nat × Obj)}
variable {F : Nat → Prop} {w W : World} {L : List (Nat × Obj)}
variable {P : Program} {E : Nat → Value} {d : Option Nat} {ty : TypeId} {pos : String} {af : Array Edge} {g : Option (Nat × Bool)}
theorem zV {α : Type} {enc : α → List Value} (hk : ∀ x, (enc x).length = k) (c : 0 < k) (d : ∀ x y, enc x = enc y → x = y) : ∀ {l m : List α}, (l.map enc).flatten = (m.map enc).flatten → l = m
 | [], [], _ => rfl
 | [], b :: m, h => by
  have := aw List.length h
  simp only [eL, eu, bH, aN, bP, an, hk] at this
  omega
 | a :: l, [], h => by
  have := aw List.length h
  simp only [eL, eu, bH, aN, bP, an, hk] at this
  omega
 | a :: l, b :: m, h => by
  simp only [aN, bP] at h
  obtain ⟨h1, g⟩ := List.append_inj h (by rw [hk, hk])
  rw [d _ _ h1, zV hk c d g]
theorem FT (x y : xv k) (h : ub x = ub y) : x = y := Subtype.ext h
theorem gI.pre {v1 : Value} {cl a : List (xv k)} (d : 0 < k) (h : gI e ub k v cl B) (h1 : gI e ub k v1 a B) (c : a.length ≤ cl.length) : a = cl.take a.length := by
 rcases h with ⟨rfl, rfl, rfl⟩ | ⟨g', cap, b, rfl, rfl, p, q, r, n⟩
 ·simp at c; simp [c]
 ·rcases h1 with ⟨_, _, h⟩ | ⟨g1, g, i, rfl, j, o, a2, a3, a4⟩
  ·cases h
  ·cases j
   refine zV EC d FT ?_
   rw [← a4]
   have hle : a.length * k ≤ cl.length * k := aW _ c
   have : b.toList.take (a.length * k) = (b.toList.take (cl.length * k)).take (a.length * k) := by rw [ef, bW hle]
   rw [this, n]
   have l : (cl.map ub).flatten = ((cl.take a.length).map ub).flatten ++ ((cl.drop a.length).map ub).flatten := by rw [← dm, ← aP, List.take_append_drop]
   have m : ((cl.take a.length).map ub).flatten.length = a.length * k := by rw [lC EC, bO, bW c]
   rw [l, ← m, List.take_left]
theorem nU.replicate {α β : Type} {Q : α → β → Prop} {a : α} {b : β} (h : Q a b) : ∀ n, nU Q (List.replicate n a) (List.replicate n b)
 | 0 => .nil
 | n + 1 => .cons h (nU.replicate h n)
end
end Go.Proofs.YtbnbdigcbldfhaaGreat
namespace Go.Proofs.YtbnbdigcbldfhaaGreat
open Go.RowKit
variable [M : Md]
theorem bS {α β : Type} {m : Option α} {f : α → Option β} {r : β} {G : Prop} (h : m.bind f = some r) (k : ∀ x, m = some x → f x = some r → G) : G :=
 let ⟨x, a, b⟩ := bind_some h
 k x a b
theorem sj {α : Type} {a b : α} (h : some a = some b) : a = b := gb h
theorem bC {α : Type} {b : Bool} {x y r : α} {G : Prop} (h : (if b = true then x else y) = r) (a : b = true → x = r → G) (c : b = false → y = r → G) : G := by
 rcases BG b with e | e
 ·exact a e (Ev e h)
 ·exact c e (Ez e h)
theorem cB {a b : Bool} (h : a = b) : Value.bool a = Value.bool b := aw Value.bool h
theorem nb {a b : Nat} (h : Nat.ble a b = true := by exact rfl) : a ≤ b := Nat.le_of_ble_eq_true h
def FI : Nat → Nat → List Bool
 | 0, _ => []
 | n + 1, m => (m % 2 == 1) :: FI n (m / 2)
def bm (n m : Nat) : Array Bool := (FI n m).toArray
section
variable {P : Program} {n : Nat} {Q : km} {E : Nat → Value} {W : World}
theorem CI {α : Type} {co : Operand} {b : Bool} {x y : Code} {A B r : α} (hm : (if b = true then A else B) = r) (a : gv E co = .bool b) (d : b = true → A = r → CW P n x Q E W) (c : b = false → B = r → CW P n y Q E W) : CW P n (.cond co x y) Q E W :=
 Bc a (fun e => d e (Ev e hm)) (fun e => c e (Ez e hm))
theorem CJ {σ ρ : Type} {m : Option σ} {k : σ → Option ρ} {r : ρ} {x : Code} {K : (Nat → Value) → World → Prop} (hm : m.bind k = some r) (I : σ → (Nat → Value) → World → Prop) (h1 : ∀ s, m = some s → CW P n x (kZ (I s) Q) E W) (c : ∀ s E W, I s E W → k s = some r → K E W) : CW P n x (kZ K Q) E W :=
 let ⟨s, a, b⟩ := bind_some hm
 Ce (I s) (h1 s a) (fun E W h => c s E W h b)
theorem F1 {σ ρ c : Type} {m : Option (c ⊕ σ)} {k : c ⊕ σ → Option ρ} {r : ρ} {x : Code} {K : (Nat → Value) → World → Prop} (hm : m.bind k = some r) (I : σ → (Nat → Value) → World → Prop) (h1 : ∀ s, m = some s → k s = some r → CW P n x (kZ (fun E W => ∃ t, s = .inr t ∧ I t E W) Q) E W) (d : ∀ s E W, I s E W → k (.inr s) = some r → K E W) : CW P n x (kZ K Q) E W :=
 let ⟨s, a, b⟩ := bind_some hm
 Ce (fun E W => ∃ t, s = .inr t ∧ I t E W) (h1 s a b) (fun E W ⟨t, e, h⟩ => d t E W h (by subst e; exact b))
theorem LJ {σ ρ : Type} {m : Option σ} {k : σ → Option ρ} {r : ρ} {ops : Array Oper} {rest : List Oper} (hm : m.bind k = some r) (I : σ → (Nat → Value) → World → Prop) (j : Nat) (c : ∀ s E W, I s E W → k s = some r → LW P n ops Q (rest.drop j) E W) (h1 : ∀ s, m = some s → (∀ E W, I s E W → LW P n ops Q (rest.drop j) E W) → LW P n ops Q rest E W) : LW P n ops Q rest E W :=
 let ⟨s, a, b⟩ := bind_some hm
 h1 s a (fun E W h => c s E W h b)
theorem PJ {σ ρ : Type} {m : Option σ} {k : σ → Option ρ} {r : ρ} {ops : Array Oper} {S : Array Bool → World → Prop} {fuel : Nat} {listed : Array Bool} (hm : m.bind k = some r) (I : σ → (Nat → Value) → World → Prop) (d : Array Bool) (c : Nat) (g : ∀ s E W, I s E W → k s = some r → PX P n ops Q S c d E W) (h1 : ∀ s, m = some s → (∀ E W, I s E W → PX P n ops Q S c d E W) → PX P n ops Q S fuel listed E W) : PX P n ops Q S fuel listed E W :=
 let ⟨s, a, b⟩ := bind_some hm
 h1 s a (fun E W h => g s E W h b)
theorem cF (n : Nat) {f : FuncId} {fn : Func} {c : Code} {args : List Value} {w : World} {R : Ending → World → Prop} (a : P.funcs[f]? = some fn) (b : fn.body = some c) (h : @CW rk P n c (pd P fn R) (qX args) w) (g : fn.ntmps = n := by exact rfl) (d : args.length ≤ n := by exact nb) : Calls P f args.toArray w R := ri a b g d h
end
section
variable {dd : Bool} {P : Program} {fn : Func} {E : Nat → Value} {W w : World} {μ : gT} {L : List (Nat × Obj)}
theorem rP {t : Tmp} {v : Value} (a : ST dd gN w W μ L) (b : fn.results = #[.tmp t] := by exact rfl) (c : E t = v := by exact rfl) : pd P fn (fun e W' => e = .returned v ∧ Ex dd w W') .ret E W := ij b c ⟨rfl, a.ex⟩
end
theorem ST.FQ {dd : Bool} {F : Nat → Prop} {w W : World} {μ : gT} {x : Nat × Obj} {L : List (Nat × Obj)} (h : ST dd F w W μ (x :: L)) : ST dd F w W μ ([x] ++ L) := h
theorem aL {E : Nat → Value} {ax : Array Operand} {l : List Value} (h : ax.toList.map (gv E) = l) : ax.map (gv E) ++ (#[] : Array Value) = l.toArray := by subst h; apply Array.ext'; simp
section
variable {dd : Bool}
variable {P : Program} {E : Nat → Value} {W : World} {d : Option Nat} {ty : TypeId} {pos : String} {af : Array Edge} {g : Option (Nat × Bool)}
 {F : Nat → Prop} {w : World} {μ : gT} {L : List (Nat × Obj)}
variable {f : FuncId} {fv : Operand} {ax : Array Operand} {ats : Array TypeId} {args : List Value} {v : Value} {K : Value → World → Prop}
theorem Eg (a : ST dd F w W μ L) (he : ∀ args w, (callFunc f args).run P w = .ok (.enter f args) w) (c : iC dd P f args W v) (h : ∀ W', ST dd F w W' μ L → K v W') (i : gv E fv = .func (.func f) #[] #[] := by exact rfl) (b : ax.toList.map (gv E) = args := by exact rfl) : jx P E ⟨d, .call ⟨.value fv, ax, ats⟩, ty, pos, af, g⟩ W K := Ek a i he (aL b) c h
theorem lB {α : Type} {e : TypeId} {enc : α → List Value} {k : Nat} {l : List α} {Y : List (Nat × Obj)} (a : ST dd F w W μ Y) (he : ∀ args w, (callFunc f args).run P w = .ok (.enter f args) w) (c : iz dd P f args W e enc k l) (h : ∀ W' v μ' R, ST dd F w W' μ' (R ++ Y) → ig μ μ' → Lo F w μ μ' → gI e enc k v l R → K v W') (i : gv E fv = .func (.func f) #[] #[] := by exact rfl) (b : ax.toList.map (gv E) = args := by exact rfl) : jx P E ⟨d, .call ⟨.value fv, ax, ats⟩, ty, pos, af, g⟩ W K := xd _ a i he (aL b) c h
theorem wo {K' : Value → List (Nat × Obj) → World → Prop} {L0 L2 : List (Nat × Obj)} (i : ST dd F w W μ L) (j : L.Perm (L0 ++ L2)) (he : ∀ args w, (callFunc f args).run P w = .ok (.enter f args) w) (l : vd L0 W → (L0.map (·.1)).Nodup → ig μ (oW W L0) → (∀ b o, (b, o) ∈ L2 → oW W L0 b = some o) → ir dd P f args W L0 K') (h : ∀ W' v μ' L1, ST dd F w W' μ' (L1 ++ L2) → ig μ μ' → Lo F w μ μ' → (∀ b, W.heap.size ≤ b → ∀ o, oW W' L1 b = some o → μ' b = some o) → K' v L1 W' → K v W') (m : gv E fv = .func (.func f) #[] #[] := by exact rfl) (k : ax.toList.map (gv E) = args := by exact rfl) : jx P E ⟨d, .call ⟨.value fv, ax, ats⟩, ty, pos, af, g⟩ W K :=
 Em L0 L2 i j m he (aL k) (fun a b c d => by have := l a b c d; simpa using this) h
end
end Go.Proofs.YtbnbdigcbldfhaaGreat
namespace Go.Proofs.YtbnbdigcbldfhaaGreat
open Go.RowKit
def F6 (R : List (Nat × Obj)) (k : Nat) (p : Value) (i a : Nat) : Prop := ∃ g o, R = [(g, o)] ∧ p = .pointer (some ⟨g, i * k + a, none⟩)
theorem tE.f {R : List (Nat × Obj)} {k : Nat} {p : Value} {i : Nat} (h : tE R k p i) : F6 R k p i 0 := h
section
variable {P : Program} {E : Nat → Value} {W : World} {d : Option Nat} {ty : TypeId} {pos : String} {af : Array Edge} {g : Option (Nat × Bool)}
 {dd : Bool} {F : Nat → Prop} {w : World} {μ : gT} {L : List (Nat × Obj)} {α : Type} {e' : TypeId} {enc : α → List Value} {k : Nat} {v : Value} {l : List α} {R : List (Nat × Obj)}
theorem gI.put (h : gI e' enc k v l R) (hk : ∀ x, (enc x).length = k) {p : Value} {i : Nat} (hp : tE R k p i) {x0 : α} (q : l[i]? = some x0) (x1 : α) :
  ∃ g a, R = [(g, .cells a e' (0, 0))] ∧ p = .pointer (some ⟨g, i * k, none⟩) ∧ i * k + k ≤ a.size ∧ (∀ j y, (enc x0)[j]? = some y → a[i * k + j]? = some y) ∧
   gI e' enc k v (l.set i x1) [(g, .cells (a.toList.take (i * k) ++ enc x1 ++ a.toList.drop (i * k + k)).toArray e' (0, 0))] := by
 have m : i < l.length := (aC.1 q).1
 obtain ⟨g', a, cap, rfl, rfl, o, t, d, u, rfl, w⟩ := sm h hk hp q
 have hle : i * k + k ≤ cap * k := by
  have : (i + 1) * k ≤ cap * k := aW _ (by omega)
  rwa [aZ, ft] at this
 have b : i * k + k ≤ l.length * k := by
  have : (i + 1) * k ≤ l.length * k := aW _ (by omega)
  rwa [aZ, ft] at this
 have hlen : l.length * k ≤ cap * k := aW _ o
 refine ⟨g', a, rfl, rfl, by rw [d]; exact hle, w, .inr ⟨g', cap, _, by simp, rfl, by simpa using o, t, ?_, ?_⟩⟩
 ·show ((a.toList.take (i * k) ++ (enc x1) ++ a.toList.drop (i * k + k)).toArray).size = _
  have c : a.toList.length = cap * k := by simpa using d
  rw [cr, an, an, bO, et, hk, c, bW (by omega)]; omega
 ·rw [eE, wv hk l i x1 m, ← u]
  have r : (a.toList.take (l.length * k)).take (i * k) = a.toList.take (i * k) := by rw [ef]; congr 1; omega
  have s : (a.toList.take (l.length * k)).drop (i * k + k) = (a.toList.drop (i * k + k)).take (l.length * k - (i * k + k)) := by rw [eS]
  rw [r, s]
  show List.take (l.length * k) (a.toList.take (i * k) ++ enc x1 ++ a.toList.drop (i * k + k)) = _
  have c : a.toList.length = cap * k := by simpa using d
  have n : (a.toList.take (i * k) ++ enc x1).length = i * k + k := by rw [an, bO, hk, c, bW (by omega)]
  rw [dq, bR (by rw [n]; exact b), n]
end
end Go.Proofs.YtbnbdigcbldfhaaGreat
