/- a part of a proof of WeighRanks -/
import Derived.WalkKit
import Derived.WalkLawsBesides
import Derived.TacticsIn
import Derived.OrdersIn
import Derived.ControlIn
import Derived.Maps.AppendAt
import Derived.OrdersHeld
import Derived.Laws.IdiomStrings
import Derived.Maps.RangeRun
import Derived.Lib.BytesEntry
import Derived.Lib.Bytealg
import Derived.Laws.Externs
import Derived.ChangeKeysEq
import Derived.Deep.AppendSrc
import Derived.Laws.MakeOwn
set_option linter.all false
namespace Go.Proofs.YtbnbdigcbldfhaaGreat
open Go.RowKit
def aa := @Option.bind_some
def ah := @List.mem_cons
def ai := @if_neg
def ak := @if_pos
def al := @run_underlying
def an := @List.length_append
def ap := @congrArg
def aq := @Bool.false_eq_true
def ar := @List.append_assoc
def aw := @List.getElem?_eq_some_iff
def ay := @Int.natCast_nonneg
def az := @List.length_cons
def aA := @List.mem_singleton
def aC := @Bool.and_eq_true
def aD := @List.nodup_append
def aG := @List.mem_append
def aH := @Result.andThen_ok
def aI := @List.drop_length
def aJ := @Nat.le_refl
def aK := @List.mem_map
def aM := @List.map_cons
def aO := @List.map_append
def aQ := @Sem.run_bind
def aR := @List.mem_append_left
def aS := @Nat.mul_le_mul_right
def aU := @List.append_nil
def aV := @List.Perm.append_left
def aW := @Nat.add_mul
def aX := @Nat.le_trans
def aY := @if_true
def aZ := @List.mem_append_right
def bd := @Array.getElem?_toList
def bf := @Calls.mono
def bj := @if_false
def bk := @Bool.eq_false_or_eq_true
def bl := @Nat.lt_succ_self
def bn := @List.nil_append
def bp := @Array.getElem?_eq_some_iff
def bq := @Sem.run_pure
def bu := @List.length_eq_zero_iff
def bw := @List.findIdx?_eq_some_iff_getElem
def bx := @List.length_nil
def bz := @Bool.eq_iff_iff
def bA := @Option.map_some
def bB := @List.flatten_cons
def bE := @List.getElem?_eq_getElem
def bG := @List.length_map
def bH := @List.length_take
def bL := @List.eq_nil_of_length_eq_zero
def bM := @List.take_of_length_le
def bN := @List.pairwise_cons
def bO := @List.nodup_cons
def bP := @Nat.min_eq_left
def bR := @beq_self_eq_true
def bT := @List.cons_append
def bU := @List.not_mem_nil
def bV := @Array.getElem?_modify
def bW := @Addr.add_lit
def bX := @List.getElem?_map
def bY := @List.getElem?_drop
def cc := @List.countP_cons
def cd := @Array.length_toList
def cg := @List.size_toArray
def ch := @List.pairwise_map
def cj := @List.flatMap_cons
def ck := @List.getElem?_take_of_lt
def cn := @Bool.not_true
def cq := @List.cons.injEq
def cr := @List.mem_filter
def ct := @Nat.lt_of_lt_of_le
def cu := @Nat.eq_zero_or_pos
def cv := @List.findIdx?_cons
def cx := @Array.getD_eq_getD_getElem?
def cy := @List.ext_getElem?
def cA := @List.getElem?_eq_none
def cC := @List.perm_append_comm
def cE := @List.perm_middle
def cH := @List.getElem?_take
def cJ := @List.mem_cons_of_mem
def cK := @List.Perm.refl
def cL := @List.forall_mem_cons
def cO := @decide_eq_true_eq
def cP := @Bool.not_eq_true'
def cQ := @List.map_map
def cU := @Bool.not_false
def cV := @List.eq_nil_or_concat
def cW := @Array.getElem?_eq_getElem
def cX := @Classical.byContradiction
def cY := @List.foldl_cons
def cZ := @Bool.or_eq_true
def da := @List.getElem?_set
def db := @Function.comp_def
def de := @Nat.zero_add
def df := @List.findIdx?_append
def dg := @Int.toNat_natCast
def dh := @Nat.add_assoc
def dj := @ByteArray.toList_eq
def dl := @List.filter_eq_self
def dm := @List.flatten_append
def dn := @List.mergeSort_perm
def dp := @wpIn_mono
def dq := @List.take_append
def dr := @List.filter_cons
def du := @List.append_of_mem
def dw := @List.getElem?_toArray
def dx := @List.length_singleton
def dy := @Option.some.injEq
def dz := @Bool.eq_false_iff
def dA := @List.getElem?_append
def dB := @List.getElem?_append_right
def dC := @List.pairwise_append
def dG := @Nat.mul_le_mul
def dH := @Option.getD_some
def dK := @List.any_eq_true
def dL := @List.mem_flatMap
def dM := @List.findIdx?_eq_none_iff
def dN := @List.Perm.nodup_iff
def dO := @Array.toList_filter
def dP := @run_callFunc_extern
def dQ := @List.getElem_set_ne
def dR := @or_false
def dV := @run_equalIn_struct
def dW := @cell_of_row
def dX := @List.getElem?_cons_zero
def dY := @List.pairwise_mergeSort
def dZ := @callsIn_wide
def eb := @List.take_take
def ec := @List.findIdx?_map
def ed := @List.Perm.append_right
def ei := @of_decide_eq_true
def ej := @List.singleton_append
def ek := @Array.getElem?_append
def eo := @List.length_mergeSort
def er := @List.length_drop
def et := @List.flatten_nil
def ew := @Prod.mk.injEq
def eB := @Bool.true_and
def eC := @Nat.zero_le
def eF := @List.length_set
def eH := @List.map_congr_left
def eJ := @List.flatMap_append
def eK := @List.take_length_add_append
def eL := @List.perm_append_comm_assoc
def eO := @List.map_nil
def eT := @run_loadCells_list
def eU := @List.drop_take
def eV := @List.filter_append
def eW := @List.map_mergeSort
def fp := @UInt8.toNat_lt
def fq := @eq_iff_iff
def ft := @Bool.and_assoc
def fu := @Nat.le_succ
def fw := @run_storeCells_at
def fx := @Nat.one_mul
def fN := @UInt8.ofNat_toNat
def fO := @List.getLast?_nil
def fP := @DataW.trod_struct
def fQ := @ByteArray.ext
def fR := @List.sum_cons
def fS := @List.mem_flatten
def fT := @List.all_eq_true
def fX := @beq_iff_eq
def fY := @getElem!_pos
def gd := @List.find?_cons
def gf := @Oper.upon_value
def gh := @Oper.upon_enter
def gi := @Option.some.inj
def gl := @getD_set_ne
def gp := @mem_ready
class Md where
 ro : Option Nat
 D : List Deferred
instance qo : Md := ⟨none, []⟩
theorem pY {ro : Option Nat} {P : Program} {ρ : Operand → Value} {o : Oper} {W W' : World} {x : Next} (h : (execOp ρ o).run P W = .ok x W') (g : ∀ d, x ≠ .defer d) : (Oper.semAt ro ρ o).run P W = .ok x W' := by
 cases ro with
 | none => exact h
 | some l =>
  rw [Oper.semAt_eq]
  ·exact h
  ·intro c b
   have e : (execOp ρ o) = (resolve ρ c o.type >>= fun d => pure (Next.defer d)) := by
    unfold execOp; rw [b]
   rw [e, aQ] at h
   cases a : (resolve ρ c o.type).run P W with
   | ok d w => rw [a, aH] at h; cases h; exact g d rfl
   | halt z w => rw [a] at h; cases h
def Md.F (M : Md) : Fence := { Fence.wide with round := M.ro }
theorem Cc {M : Md} {n : Nat} {P : Program} {f : FuncId} {args : Array Value} {w : World} {R : Ending → World → Prop} : CallsIn M.F n P f args w R ↔ Calls P f args w R := dZ
theorem xw {M : Md} {n : Nat} {P : Program} {f : FuncId} {args : Array Value} {w : World} {R : Ending → World → Prop} (h : Calls P f args w R) : (M.F.depth.isSome = true → 1 ≤ n) ∧ CallsIn M.F (n - 1) P f args w R :=
 ⟨fun e => (nomatch (show (none : Option Nat).isSome = true from e)), Cc.2 h⟩
variable [M : Md]
def jw (E : Nat → Value) (d : Nat) (v : Value) : Nat → Value := fun t => if t = d then v else E t
def gz (E : Nat → Value) : Operand → Value
 | .tmp t => E t
 | .const v => v
 | .global g => .pointer (some ⟨g, 0, none⟩)
 | .func f => .func (.func f) #[] #[]
def Ag (n : Nat) (a : Act) (E : Nat → Value) : Prop := a.tmps.size = n ∧ a.defers = M.D ∧ ∀ t, a.tmps.getD t undef = E t
section
variable {n : Nat} {a : Act} {E : Nat → Value}
theorem Ag.eval (h : Ag n a E) : a.eval = gz E := by
 funext x
 cases x with
 | tmp t => exact h.2.2 t
 | const v => rfl
 | global g => rfl
 | func f => rfl
theorem Ag.put (h : Ag n a E) {d : Nat} (g : d < n) (v : Value) : Ag n (a.put (some d) v) (jw E d v) := by
 refine ⟨by simp [Act.put, h.1], h.2.1, fun t => ?_⟩
 have c := h.2.2 t
 simp only [Act.put, jw]
 by_cases b : t = d
 ·subst b
  simp [h.1, g]
 ·have : ¬ d = t := fun e => b e.symm
  rw [ai b, ← c]
  simp [cx, this]
theorem Ag.qR (h : Ag n a E) (v : Value) : Ag n (a.put none v) E := h
theorem Ag.yield (h : Ag n a E) {ops : Array Oper} {j t : Nat} {b : Bool} (d : (ops[j]?).bind (·.dst) = some t) (i : t < n) (k : E t = .bool b) : yielded ops a.tmps j = some b := by
 have c := h.2.2 t
 have g : a.tmps[t]? = some (E t) := by
  rw [← c]
  simp [cx, h.1, i]
 simp [yielded, d, g, k]
end
abbrev jW := Exit → (Nat → Value) → World → Prop
def E0 : Nat → Value := fun _ => undef
def lift (n : Nat) (Q : jW) : Exit → Act → World → Prop
 | .panic c, a, w => a.defers = M.D ∧ Q (.panic c) E0 w
 | .outgrown, _, _ => False
 | e, a, w => ∃ E, Ag n a E ∧ Q e E w
theorem zr {n : Nat} {Q : jW} {c : List PanicEntry} {a : Act} {d : Option Nat} {v : Value} {w : World} (h : lift n Q (.panic c) (a.put d v) w) : lift n Q (.panic c) a w := by
 cases d <;> exact h
def CW (P : Program) (n : Nat) (c : Code) (Q : jW) (E : Nat → Value) (W : World) : Prop := ∀ a, Ag n a E → c.wpIn M.F 0 P (lift n Q) a W
def LW (P : Program) (n : Nat) (ops : Array Oper) (Q : jW) (l : List Oper) (E : Nat → Value) (W : World) : Prop := ∀ a, Ag n a E → wpListIn M.F 0 P ops (lift n Q) l a W
def kP (K : (Nat → Value) → World → Prop) (Q : jW) : jW
 | .normal, E, W => K E W
 | e, E, W => Q e E W
def pk (id : Nat) (Q : jW) : jW
 | .exit j, E, W => if j = id then Q .normal E W else Q (.exit j) E W
 | e, E, W => Q e E W
section
variable {P : Program} {n : Nat} {Q : jW} {E : Nat → Value} {W : World} {c x y : Code} {ops : Array Oper} {rest : List Oper} {o : Oper}
theorem tr {Q' : jW} (h : CW P n c Q E W) (g : ∀ e E W, Q e E W → Q' e E W) : CW P n c Q' E W := fun a i =>
 dp (h a i) (fun e _ _ h => by
  cases e with
  | panic c => exact ⟨h.1, g _ _ _ h.2⟩
  | outgrown => exact h
  | _ => obtain ⟨E', b, d⟩ := h; exact ⟨E', b, g _ _ _ d⟩)
theorem gO (h : CW P n x (kP (fun E W => CW P n y Q E W) Q) E W) : CW P n (.seq x y) Q E W := fun a d =>
 wpIn_seq (dp (h a d) (fun e c i h => by
  cases e with
  | normal => obtain ⟨E', b, g⟩ := h; exact g c b
  | _ => exact h))
theorem iv (h : Q .normal E W) : CW P n .skip Q E W := fun _ a => wpIn_skip ⟨E, a, h⟩
theorem iq (h : Q .ret E W) : CW P n .ret Q E W := fun _ a => wpIn_ret ⟨E, a, h⟩
theorem ot {id : Nat} (h : Q (.exit id) E W) : CW P n (.exit id) Q E W := fun _ a => wpIn_exit ⟨E, a, h⟩
theorem jl {id : Nat} (h : CW P n c (pk id Q) E W) : CW P n (.block id c) Q E W := fun a i =>
 wpIn_block (dp (h a i) (fun e k l h => by
  cases e with
  | exit j =>
   obtain ⟨E', b, d⟩ := h
   simp only [Exit.inBlock]
   simp only [pk] at d
   split at d
   ·rename_i g; rw [ak g]; exact ⟨E', b, d⟩
   ·rename_i g; rw [ai g]; exact ⟨E', b, d⟩
  | _ => exact h))
theorem AU {co : Operand} {b : Bool} (d : gz E co = .bool b) (i : b = true → CW P n x Q E W) (g : b = false → CW P n y Q E W) : CW P n (.cond co x y) Q E W := fun a c => by
 refine wpIn_cond_split (t := b) (by rw [c.eval]; exact d) (fun h => i h a c) (fun h => g h a c)
theorem qk {co : Operand} (a : gz E co = .bool true) (h : CW P n x Q E W) : CW P n (.cond co x y) Q E W := AU a (fun _ => h) (fun h => by cases h)
theorem ml {co : Operand} (a : gz E co = .bool false) (h : CW P n y Q E W) : CW P n (.cond co x y) Q E W := AU a (fun h => by cases h) (fun _ => h)
theorem gJ {id : Nat} {l : List Oper} (h : LW P n l.toArray Q l E W) : CW P n (.region id l.toArray false) Q E W := fun a b => wpIn_region_lit (h a b)
theorem gT (h : Q .normal E W) : LW P n ops Q [] E W := fun _ a => wpListIn_nil ⟨E, a, h⟩
theorem xd {P : Program} {F : Fence} {n : Nat} {c : Code} {Q : Exit → Act → World → Prop} {a : Act} {w : World} (I : Nat → Act → World → Prop) (m : Nat) (j : I m a w) (round : ∀ m a w, I m a w → c.wpIn F n P (Exit.then (fun l o => ∃ g, g < m ∧ I g l o) Q) a w) : (Code.loop c).wpIn F n P Q a w := by
 classical
 let J : Act → World → Prop := fun a w => ∃ m, I m a w
 have least : ∀ a w, J a w → ∃ m, I m a w ∧ ∀ k, I k a w → m ≤ k := fun a w ⟨m, hm⟩ => by
  induction m using Nat.strongRecOn with
  | _ m ih =>
   by_cases h : ∃ k, k < m ∧ I k a w
   ·obtain ⟨k, hk, b⟩ := h; exact ih k hk b
   ·exact ⟨m, hm, fun k b => Nat.le_of_not_lt fun d => h ⟨k, d, b⟩⟩
 let μ : Act → World → Nat := fun a w => if h : J a w then Classical.choose (least a w h) else 0
 have i : ∀ a w (h : J a w), I (μ a w) a w ∧ ∀ k, I k a w → μ a w ≤ k := fun a w h => by
  have e : μ a w = Classical.choose (least a w h) := dif_pos h
  rw [e]; exact Classical.choose_spec (least a w h)
 refine wpIn_loop J μ ⟨m, j⟩ fun a w p => dp (round _ a w (i a w p).1) fun e l o h => ?_
 cases e with
 | normal => obtain ⟨g, d, b⟩ := h; exact ⟨⟨g, b⟩, Nat.lt_of_le_of_lt ((i l o ⟨g, b⟩).2 g b) d⟩
 | _ => exact h
theorem mc (I : Nat → (Nat → Value) → World → Prop) (m : Nat) (b : I m E W) (round : ∀ m E W, I m E W → CW P n c (kP (fun E' W' => ∃ d, d < m ∧ I d E' W') Q) E W) : CW P n (.loop c) Q E W := fun a i =>
 xd (fun m a w => ∃ E, Ag n a E ∧ I m E w) m ⟨E, i, b⟩ (fun m a w ⟨E, i, l⟩ =>
  dp (round m E w l a i) (fun e o p h => by
   cases e with
   | normal => obtain ⟨E', j, d, k, g⟩ := h; exact ⟨d, k, E', j, g⟩
   | _ => exact h))
def mu (n : Nat) (ops : Array Oper) (E : Nat → Value) (o : Oper) : Prop :=
 o.guard = none ∨ ∃ j want t, o.guard = some (j, want) ∧ (ops[j]?).bind (·.dst) = some t ∧ t < n ∧ E t = .bool want
theorem mu.of {a : Act} (h : mu n ops E o) (c : Ag n a E) : Region.wanted o (yielded ops a.tmps) = true := by
 rcases h with h | ⟨j, want, t, d, g, i, b⟩
 ·simp [Region.wanted, h]
 ·simp [Region.wanted, d, c.yield g i b]
theorem BL {d : Nat} {v : Value} {W' : World} (hw : mu n ops E o) (c : o.dst = some d) (g : d < n) (i : (execOp (gz E) o).run P W = .ok (.value v) W') (h : LW P n ops Q rest (jw E d v) W') : LW P n ops Q (o :: rest) E W := fun a b => by
 unfold wpListIn
 rw [ak (hw.of b)]
 unfold Oper.wpIn
 refine ⟨fun _ _ => trivial, ?_⟩
 rw [b.eval, pY i (by simp), Oper.uponIn_value, c]
 exact h _ (b.put g v)
theorem CY {W' : World} (hw : mu n ops E o) (c : o.dst = none) (d : (execOp (gz E) o).run P W = .ok .skip W') (h : LW P n ops Q rest E W') : LW P n ops Q (o :: rest) E W := fun a b => by
 unfold wpListIn
 rw [ak (hw.of b)]
 unfold Oper.wpIn
 refine ⟨fun _ _ => trivial, ?_⟩
 rw [b.eval, pY d (by simp), Oper.uponIn_skip, c]
 exact h _ (b.qR _)
theorem CS {f : FuncId} {args : Array Value} {d : Nat} (hw : mu n ops E o) (g : o.dst = some d) (j : d < n) (k : (execOp (gz E) o).run P W = .ok (.enter f args) W) (h : Calls P f args W fun e c => ∃ v, e = .returned v ∧ LW P n ops Q rest (jw E d v) c) : LW P n ops Q (o :: rest) E W := fun a b => by
 unfold wpListIn
 rw [ak (hw.of b)]
 unfold Oper.wpIn
 refine ⟨fun _ _ => trivial, ?_⟩
 rw [b.eval, pY k (by simp), Oper.uponIn_enter]
 refine xw (bf h ?_)
 rintro e c ⟨v, rfl, i⟩
 simp only [g]
 exact i _ (b.put j v)
theorem Fe {d j t : Nat} {want : Bool} (g : o.dst = some d) (l : d < n) (i : o.guard = some (j, want)) (k : (ops[j]?).bind (·.dst) = some t) (m : t < n) (c : E t = .bool (!want)) (h : LW P n ops Q rest (jw E d undef) W) : LW P n ops Q (o :: rest) E W := fun a b => by
 unfold wpListIn
 have p := b.yield k m c
 rw [ai (by simp [Region.wanted, i, p])]
 rw [g]
 exact ⟨fun _ _ => trivial, h _ (b.put l _)⟩
end
end Go.Proofs.YtbnbdigcbldfhaaGreat
namespace Go.Proofs.YtbnbdigcbldfhaaGreat
open Go.RowKit
variable {dd : Bool}
abbrev gS := Nat → Option Obj
def hp (W : World) : gS := fun b => W.heap[b]?
def ng (dd : Bool) (a b : Nat) : Prop := dd = true → a ≤ b
theorem ng.of {dd : Bool} {a b : Nat} (h : a ≤ b) : ng dd a b := fun _ => h
theorem ng.trans {dd : Bool} {a b c : Nat} (h : ng dd a b) (k : ng dd b c) : ng dd a c := fun e => aX (h e) (k e)
structure Ex (dd : Bool) (w W : World) : Prop where
 os : W.os = w.os
 tape : W.tape = w.tape
 output : W.output = w.output
 drawn : ng dd w.drawn W.drawn
 size : w.heap.size ≤ W.heap.size
 iG : ∀ b, b < w.heap.size → W.heap[b]? = w.heap[b]?
theorem Ex.refl (w : World) : Ex dd w w := ⟨rfl, rfl, rfl, ng.of (aJ _), aJ _, fun _ _ => rfl⟩
theorem Ex.trans {a b c : World} (h : Ex dd a b) (k : Ex dd b c) : Ex dd a c :=
 ⟨k.os.trans h.os, k.tape.trans h.tape, k.output.trans h.output, ng.trans h.drawn k.drawn, aX h.size k.size, fun i d => (k.iG i (ct d h.size)).trans (h.iG i d)⟩
theorem Ex.drew (w : World) : Ex dd w w.drew := ⟨rfl, rfl, rfl, ng.of (fu _), aJ _, fun _ _ => rfl⟩
theorem Ex.alloc (w : World) (o : Obj) : Ex dd w (w.alloc o) := ⟨rfl, rfl, rfl, ng.of (aJ _), by show w.heap.size ≤ (w.heap.push o).size; simp, fun k hk => Below.heap_alloc w o k hk⟩
theorem Ex.ki {w W : World} (h : Ex true w W) : Ex dd w W := ⟨h.os, h.tape, h.output, ng.of (h.drawn rfl), h.size, h.iG⟩
def gZ (μ μ' : gS) : Prop := ∀ b o, μ b = some o → μ' b = some o
theorem gZ.refl (μ : gS) : gZ μ μ := fun _ _ h => h
theorem gZ.trans {a b c : gS} (h : gZ a b) (k : gZ b c) : gZ a c := fun x o d => k x o (h x o d)
structure ST (dd : Bool) (F : Nat → Prop) (w W : World) (μ : gS) (L : List (Nat × Obj)) : Prop where
 os : W.os = w.os
 tape : W.tape = w.tape
 output : W.output = w.output
 drawn : ng dd w.drawn W.drawn
 size : w.heap.size ≤ W.heap.size
 iG : ∀ b, b < w.heap.size → ¬ F b → W.heap[b]? = w.heap[b]?
 mem : ∀ b o, μ b = some o → W.heap[b]? = some o
 box : ∀ b o, (b, o) ∈ L → W.heap[b]? = some o ∧ μ b = none ∧ (w.heap.size ≤ b ∨ F b)
 nd : (L.map (·.1)).Nodup
def ia : Nat → Prop := fun _ => False
theorem ST.start (w : World) : ST dd ia w w (hp w) [] :=
 ⟨rfl, rfl, rfl, ng.of (aJ _), aJ _, fun _ _ _ => rfl, fun _ _ h => h, fun _ _ h => (by cases h), by simp⟩
section
variable {F : Nat → Prop} {w W W' : World} {μ μ' : gS} {L L' : List (Nat × Obj)}
theorem ST.ex (h : ST dd ia w W μ L) : Ex dd w W := ⟨h.os, h.tape, h.output, h.drawn, h.size, fun b a => h.iG b a (fun x => x)⟩
theorem Dc (W : World) (o : Obj) : (W.alloc o).heap[W.heap.size]? = some o := heap_alloc_new W o
theorem jI {W : World} {b : Nat} {o : Obj} (h : W.heap[b]? = some o) : b < W.heap.size := (bp.1 h).1
theorem ST.drew (h : ST dd F w W μ L) : ST dd F w W.drew μ L :=
 ⟨h.os, h.tape, h.output, ng.trans h.drawn (ng.of (fu _)), h.size, h.iG, h.mem, h.box, h.nd⟩
theorem ST.wS (h : ST dd F w W μ L) {b : Nat} {o : Obj} (a : (b, o) ∈ L) : b < W.heap.size := jI (h.box b o a).1
theorem ST.alloc (h : ST dd F w W μ L) (o : Obj) : ST dd F w (W.alloc o) μ ((W.heap.size, o) :: L) := by
 refine ⟨h.os, h.tape, h.output, h.drawn, aX h.size (Ex.alloc (dd := true) W o).size, fun b a g => ?_, fun b o' a => ?_, fun b o' a => ?_, ?_⟩
 ·rw [(Ex.alloc (dd := true) W o).iG b (ct a h.size)]; exact h.iG b a g
 ·have := h.mem b o' a
  rw [(Ex.alloc (dd := true) W o).iG b (jI this)]; exact this
 ·rcases ah.1 a with e | a
  ·cases e
   refine ⟨Dc W o, ?_, .inl h.size⟩
   cases hm : μ W.heap.size with
   | none => rfl
   | some x => have := jI (h.mem _ _ hm); omega
  ·obtain ⟨h1, c, d⟩ := h.box b o' a
   exact ⟨by rw [(Ex.alloc (dd := true) W o).iG b (jI h1)]; exact h1, c, d⟩
 ·simp only [aM, bO]
  refine ⟨fun hm => ?_, h.nd⟩
  obtain ⟨⟨b, o'⟩, a, e⟩ := aK.1 hm
  have := h.wS a
  simp at e
  omega
theorem ST.put {A B : List (Nat × Obj)} {b : Nat} {o o' : Obj} (h : ST dd F w W μ (A ++ (b, o) :: B)) (r : W'.os = W.os ∧ W'.tape = W.tape ∧ W'.output = W.output ∧ W.drawn ≤ W'.drawn ∧ W'.heap.size = W.heap.size) (d : ∀ k, k ≠ b → W'.heap[k]? = W.heap[k]?) (s : W'.heap[b]? = some o') : ST dd F w W' μ (A ++ (b, o') :: B) := by
 obtain ⟨h1, m, n, p, q⟩ := r
 have c := h.box b o (by simp)
 have a := h.nd
 simp only [aO, aM] at a
 have g : ∀ x o, (x, o) ∈ A → x ≠ b := fun x o j e => by
  subst e
  have := (aD.1 a).2.2 x (aK.2 ⟨_, j, rfl⟩) x (by simp)
  exact this rfl
 have i : ∀ x o, (x, o) ∈ B → x ≠ b := fun x o j e => by
  subst e
  have := (bO.1 (aD.1 a).2.1).1
  exact this (aK.2 ⟨_, j, rfl⟩)
 refine ⟨h1.trans h.os, m.trans h.tape, n.trans h.output, ng.trans h.drawn (ng.of p), by rw [q]; exact h.size, fun k hk l => ?_, fun k x hk => ?_, fun k x hk => ?_, by simpa using a⟩
 ·rw [d k (fun e => by subst e; rcases c.2.2 with h | h; omega; exact l h)]
  exact h.iG k hk l
 ·rw [d k (fun e => by subst e; rw [c.2.1] at hk; cases hk)]
  exact h.mem k x hk
 ·rcases aG.1 hk with hk | hk
  ·rw [d k (g k x hk)]; exact h.box k x (by simp [hk])
  ·rcases ah.1 hk with e | hk
   ·cases e; exact ⟨s, c.2⟩
   ·rw [d k (i k x hk)]; exact h.box k x (by simp [hk])
def Lo (F : Nat → Prop) (w : World) (μ μ' : gS) : Prop := ∀ b, b < w.heap.size → ¬ F b → μ' b = μ b
theorem Lo.refl {F : Nat → Prop} {w : World} {μ : gS} : Lo F w μ μ := fun _ _ _ => rfl
theorem Lo.trans {F : Nat → Prop} {w : World} {a b c : gS} (h : Lo F w a b) (k : Lo F w b c) : Lo F w a c := fun x g d => (k x g d).trans (h x g d)
def grow (μ : gS) (W W' : World) : gS := fun b => if b < W.heap.size then μ b else W'.heap[b]?
theorem ST.vm (h : ST dd F w W μ L) {b : Nat} {o : Obj} (a : μ b = some o) : b < W.heap.size := jI (h.mem b o a)
theorem ST.call (h : ST dd F w W μ L) (c : Ex dd W W') : ST dd F w W' (grow μ W W') L := by
 refine ⟨c.os.trans h.os, c.tape.trans h.tape, c.output.trans h.output, ng.trans h.drawn c.drawn, aX h.size c.size, fun b a j => ?_, fun b o a => ?_, fun b o a => ?_, h.nd⟩
 ·rw [c.iG b (ct a h.size)]; exact h.iG b a j
 ·unfold grow at a
  split at a
  ·rename_i d; rw [c.iG b d]; exact h.mem b o a
  ·exact a
 ·obtain ⟨h1, g, i⟩ := h.box b o a
  exact ⟨by rw [c.iG b (jI h1)]; exact h1, by unfold grow; rw [ak (jI h1)]; exact g, i⟩
theorem ST.Cy (h : ST dd F w W μ L) (W' : World) : gZ μ (grow μ W W') := fun b o a => by
 unfold grow; rw [ak (h.vm a)]; exact a
theorem ST.ki (h : ST dd F w W μ' L) (c : gZ μ μ') : ST dd F w W μ L :=
 ⟨h.os, h.tape, h.output, h.drawn, h.size, h.iG, fun b o a => h.mem b o (c b o a), fun b o a => by
  obtain ⟨h1, d, g⟩ := h.box b o a
  refine ⟨h1, ?_, g⟩
  cases hm : μ b with
  | none => rfl
  | some x => (have := c b x hm; rw [d] at this; cases this), h.nd⟩
theorem ST.Bi (h : ST dd F w W μ L) (a : Ex dd W W') : ST dd F w W' μ L := (h.call a).ki (h.Cy W')
theorem ST.iH (h : ST dd F w W μ L) : gZ μ (hp W) := h.mem
def Al (μ : gS) (b : Nat) (o : Obj) : gS := fun k => if k = b then some o else μ k
theorem ST.xz {A B : List (Nat × Obj)} {b : Nat} {o : Obj} (h : ST dd F w W μ (A ++ (b, o) :: B)) : ST dd F w W (Al μ b o) (A ++ B) := by
 have d := h.box b o (by simp)
 have a := h.nd
 simp only [aO, aM] at a
 have i : ∀ x y, (x, y) ∈ A ++ B → x ≠ b := fun x y c e => by
  subst e
  rcases aG.1 c with c | c
  ·exact (aD.1 a).2.2 x (aK.2 ⟨_, c, rfl⟩) x (by simp) rfl
  ·exact (bO.1 (aD.1 a).2.1).1 (aK.2 ⟨_, c, rfl⟩)
 refine ⟨h.os, h.tape, h.output, h.drawn, h.size, h.iG, fun k x hk => ?_, fun k x hk => ?_, ?_⟩
 ·unfold Al at hk
  split at hk
  ·rename_i e; cases hk; rw [e]; exact d.1
  ·exact h.mem k x hk
 ·have g : (k, x) ∈ A ++ (b, o) :: B := by
   rcases aG.1 hk with h | h <;> simp [h]
  obtain ⟨h1, j, l⟩ := h.box k x g
  exact ⟨h1, by unfold Al; rw [ai (i k x hk)]; exact j, l⟩
 ·have : (A ++ B).Sublist (A ++ (b, o) :: B) := List.Sublist.append (List.Sublist.refl A) (List.sublist_cons_self _ _)
  exact List.Nodup.sublist (this.map _) h.nd
theorem ST.xy {A B : List (Nat × Obj)} {b : Nat} {o : Obj} (h : ST dd F w W μ (A ++ (b, o) :: B)) : gZ μ (Al μ b o) := fun k x hk => by
 unfold Al
 split
 ·rename_i e; subst e; rw [(h.box k o (by simp)).2.1] at hk; cases hk
 ·exact hk
theorem ST.B3 {A B : List (Nat × Obj)} {b : Nat} {o : Obj} (h : ST dd F w W μ (A ++ (b, o) :: B)) : Lo F w μ (Al μ b o) := fun k hk c => by
 refine ai (fun e => ?_)
 subst e
 rcases (h.box k o (by simp)).2.2 with a | a
 ·omega
 ·exact c a
theorem ST.drop {A B : List (Nat × Obj)} {p : Nat × Obj} (h : ST dd F w W μ (A ++ p :: B)) : ST dd F w W μ (A ++ B) :=
 (h.xz (b := p.1) (o := p.2)).ki h.xy
end
abbrev nM (α : Type) := gS → List Value → α → Prop
def Sl {α : Type} (R : nM α) (k : Nat) (μ : gS) (v : Value) (l : List α) : Prop :=
 ∃ A c, v = .slice A l.length c ∧ l.length ≤ c ∧ c ≤ maxLen ∧ (0 < l.length → ∃ b off cs T fr, A = some ⟨b, off, none⟩ ∧ μ b = some (.cells cs T fr) ∧
  ∀ i x, l[i]? = some x → ∃ ys, ys.length = k ∧ R μ ys x ∧ ∀ j y, ys[j]? = some y → cs[off + i * k + j]? = some y)
def At (μ : gS) (v : Value) (ys : List Value) : Prop :=
 ∃ b off cs T fr, v = .pointer (some ⟨b, off, none⟩) ∧ μ b = some (.cells cs T fr) ∧ ∀ j y, ys[j]? = some y → cs[off + j]? = some y
def Fr (B : Nat) (v : Value) : Prop := ∀ b, v.ownBlock = some b → B ≤ b
def yC {α : Type} (R : nM α) : Prop := ∀ μ μ' ys x, gZ μ μ' → R μ ys x → R μ' ys x
def Pl {α : Type} (enc : α → List Value) : nM α := fun _ ys x => ys = enc x
theorem Pl.mono {α : Type} (enc : α → List Value) : yC (Pl enc) := fun _ _ _ _ _ h => h
theorem Sl.mono {α : Type} {R : nM α} (s : yC R) {k : Nat} {μ μ' : gS} {v : Value} {l : List α} (h : Sl R k μ v l) (d : gZ μ μ') : Sl R k μ' v l := by
 obtain ⟨A, c, h1, g, j, m⟩ := h
 refine ⟨A, c, h1, g, j, fun t => ?_⟩
 obtain ⟨b, off, cs, T, fr, n, o, p⟩ := m t
 exact ⟨b, off, cs, T, fr, n, d _ _ o, fun i x u => let ⟨ys, q, r, a⟩ := p i x u; ⟨ys, q, s _ _ _ _ d r, a⟩⟩
theorem At.mono {μ μ' : gS} {v : Value} {ys : List Value} (h : At μ v ys) (d : gZ μ μ') : At μ' v ys := by
 obtain ⟨b, off, cs, T, fr, h1, a, c⟩ := h
 exact ⟨b, off, cs, T, fr, h1, d _ _ a, c⟩
theorem Sl.len {α : Type} {R : nM α} {k : Nat} {μ : gS} {v : Value} {l : List α} (h : Sl R k μ v l) : l.length ≤ 9223372036854775807 := by
 obtain ⟨A, c, h1, b, a, d⟩ := h
 unfold maxLen at a
 omega
theorem Sl.nil {α : Type} (R : nM α) (k : Nat) (μ : gS) : Sl R k μ (.slice none 0 0) [] := ⟨none, 0, rfl, aJ _, by decide, fun h => absurd h (by simp)⟩
theorem Fr.mono {B B' : Nat} {v : Value} (h : Fr B v) (a : B' ≤ B) : Fr B' v := fun b c => aX a (h b c)
theorem Fr.nil (B : Nat) : Fr B (.slice none 0 0) := fun b a => by simp [Value.ownBlock] at a
end Go.Proofs.YtbnbdigcbldfhaaGreat
namespace Go.Proofs.YtbnbdigcbldfhaaGreat
open Go.RowKit
variable [M : Md]
variable {dd : Bool}
section
variable {P : Program} {n : Nat} {Q : jW} {E : Nat → Value} {W : World} {ops : Array Oper} {rest : List Oper}
 {d : Option Nat} {ty : TypeId} {pos : String} {af : Array Edge} {g : Option (Nat × Bool)}
 {F : Nat → Prop} {w : World} {μ : gS} {L : List (Nat × Obj)}
def iu (P : Program) (E : Nat → Value) (o : Oper) (W : World) (v : Value) (W' : World) : Prop := (execOp (gz E) o).run P W = .ok (.value v) W'
theorem xK {o : Oper} {dd : Nat} {v : Value} (hw : mu n ops E o) (a : o.dst = some dd) (b : dd < n) (c : iu P E o W v W) (h : LW P n ops Q rest (jw E dd v) W) : LW P n ops Q (o :: rest) E W := BL hw a b c h
theorem gF {x : Operand} {v : Value} (a : gz E x = v) : iu P E ⟨d, .move x, ty, pos, af, g⟩ W v W := by rw [← a]; rfl
theorem jU {x : Operand} {v : Value} (a : gz E x = v) : iu P E ⟨d, .assign x, ty, pos, af, g⟩ W v W := by rw [← a]; rfl
theorem gQ {c x y : Operand} {v : Value} (a : gz E c = .bool true) (b : gz E x = v) : iu P E ⟨d, .pick c x y, ty, pos, af, g⟩ W v W := by
 show (do pure (.value (if ← asBool (gz E c) then gz E x else gz E y)) : Sem Next).run P W = _
 rw [a, ← b]; simp [asBool]
theorem gP {c x y : Operand} {v : Value} (a : gz E c = .bool false) (b : gz E y = v) : iu P E ⟨d, .pick c x y, ty, pos, af, g⟩ W v W := by
 show (do pure (.value (if ← asBool (gz E c) then gz E x else gz E y)) : Sem Next).run P W = _
 rw [a, ← b]; simp [asBool]
theorem oB {x : Operand} {i : Nat} {vs : Array Value} {v : Value} (b : gz E x = .tuple vs) (a : vs[i]? = some v) : iu P E ⟨d, .extract x i, ty, pos, af, g⟩ W v W := by
 show (do pure (.value (← Instr.extract (gz E x) i)) : Sem Next).run P W = _
 rw [b]; simp [Instr.extract, a]
theorem nY {u : TypeId} {x : Operand} {b : Bool} (a : gz E x = .bool b) : iu P E ⟨d, .unOp .not u x, ty, pos, af, g⟩ W (.bool !b) W := by
 show (do pure (.value (← Op.unary .not (gz E x))) : Sem Next).run P W = _
 rw [a]; simp [Op.unary]
theorem A5 {fn : Fn} {first caps : Array Operand} {v : Value} (a : .func fn (first.map (gz E)) (caps.map (gz E)) = v) : iu P E ⟨d, .makeFunc fn first caps, ty, pos, af, g⟩ W v W := by
 show (do pure (.value (← Instr.makeFunc fn (first.map (gz E)) (caps.map (gz E)))) : Sem Next).run P W = _
 rw [← a]; simp [Instr.makeFunc]
def yA (k : IntKind) (op : BinOp) (a b : Int) : Option Value :=
 match op with
 | .eql => some (.bool (a == b))
 | .neq => some (.bool (a != b))
 | .lss => some (.bool (decide (a < b)))
 | .leq => some (.bool (decide (a ≤ b)))
 | .gtr => some (.bool (decide (a > b)))
 | .geq => some (.bool (decide (a ≥ b)))
 | .add => some (.int k (k.wrap (a + b)))
 | .sub => some (.int k (k.wrap (a - b)))
 | .mul => some (.int k (k.wrap (a * b)))
 | _ => none
theorem jm {op : BinOp} {c l : TypeId} {x y : Operand} {k : IntKind} {a b : Int} {v : Value} (i : gz E x = .int k a) (j : gz E y = .int k b) (h : yA k op a b = some v) :
  iu P E ⟨d, .binOp op c x y l, ty, pos, af, g⟩ W v W := by
 show (do let r ← (do eqGuard op c x y (gz E x) (gz E y); binOp op c (gz E x) (gz E y)); pure (.value r) : Sem Next).run P W = _
 rw [i, j]
 cases op <;> simp [yA] at h <;> subst h <;> simp [eqGuard, binOp, Op.intCmp, Op.intArith]
def DC (op : BinOp) (a b : ByteArray) : Option Value :=
 match op with
 | .eql => some (.bool (a.toList == b.toList))
 | .neq => some (.bool !(a.toList == b.toList))
 | .lss => some (.bool (Op.bytesLess a.toList b.toList))
 | .leq => some (.bool (Op.bytesLess a.toList b.toList || a.toList == b.toList))
 | .gtr => some (.bool !(Op.bytesLess a.toList b.toList || a.toList == b.toList))
 | .geq => some (.bool !(Op.bytesLess a.toList b.toList))
 | _ => none
def qO (a b : ByteArray) : Option ByteArray := if ((a.size + b.size : Nat) : Int) > IntKind.i64.max then none else some (a ++ b)
theorem mr {op : BinOp} {c k : TypeId} {x y : Operand} {a b : ByteArray} {v : Value} (i : gz E x = .string a) (j : gz E y = .string b) (h : DC op a b = some v) :
  iu P E ⟨d, .binOp op c x y k, ty, pos, af, g⟩ W v W := by
 show (do let r ← (do eqGuard op c x y (gz E x) (gz E y); binOp op c (gz E x) (gz E y)); pure (.value r) : Sem Next).run P W = _
 rw [i, j]
 cases op <;> simp [DC] at h <;> subst h <;> simp [eqGuard, binOp, Op.stringOp]
theorem rJ {h k : TypeId} {x y : Operand} {a b r : ByteArray} (i : gz E x = .string a) (j : gz E y = .string b) (c : qO a b = some r) :
  iu P E ⟨d, .binOp .add h x y k, ty, pos, af, g⟩ W (.string r) W := by
 show (do let r ← (do eqGuard .add h x y (gz E x) (gz E y); binOp .add h (gz E x) (gz E y)); pure (.value r) : Sem Next).run P W = _
 rw [i, j]
 simp only [qO] at c
 split at c
 ·cases c
 ·rename_i hle; cases c; simp [eqGuard, binOp, Op.stringOp]; simpa using hle
theorem Eb {op : BinOp} {c l : TypeId} {x y : Operand} {a b : Bool} (i : P.underlying c = some .bool) (j : gz E x = .bool a) (k : gz E y = .bool b) (h : op = .eql) :
  iu P E ⟨d, .binOp op c x y l, ty, pos, af, g⟩ W (.bool (a == b)) W := by
 subst h
 show (do let r ← (do eqGuard .eql c x y (gz E x) (gz E y); binOp .eql c (gz E x) (gz E y)); pure (.value r) : Sem Next).run P W = _
 rw [j, k]
 simp [eqGuard, binOp, Op.equal, Op.maxDepth, run_equalIn_bool' W 9999 c a b i]
theorem qU {c l : TypeId} {x y : Operand} {a b : Array Value} {r : Bool} (j : gz E x = .agg a) (k : gz E y = .agg b) (h : ∀ W, (eqGuard .eql c x y (.agg a) (.agg b)).run P W = .ok () W) (i : ∀ W, (binOp .eql c (.agg a) (.agg b)).run P W = .ok (.bool r) W) : iu P E ⟨d, .binOp .eql c x y l, ty, pos, af, g⟩ W (.bool r) W := by
 show (do let r ← (do eqGuard .eql c x y (gz E x) (gz E y); binOp .eql c (gz E x) (gz E y)); pure (.value r) : Sem Next).run P W = _
 rw [j, k]; simp [h W, i W]
theorem Fm {c l : TypeId} {x y : Operand} {a b : Array Value} {r : Bool} (j : gz E x = .agg a) (k : gz E y = .agg b) (h : ∀ W, (eqGuard .neq c x y (.agg a) (.agg b)).run P W = .ok () W) (i : ∀ W, (binOp .neq c (.agg a) (.agg b)).run P W = .ok (.bool r) W) : iu P E ⟨d, .binOp .neq c x y l, ty, pos, af, g⟩ W (.bool r) W := by
 show (do let r ← (do eqGuard .neq c x y (gz E x) (gz E y); binOp .neq c (gz E x) (gz E y)); pure (.value r) : Sem Next).run P W = _
 rw [j, k]; simp [h W, i W]
theorem sH {t e : TypeId} (dd : Nat) (b : P.underlying t = some (.pointer e)) (a : Option Addr) (W : World) : (Op.equalIn (dd + 1) t (.pointer a) (.pointer none)).run P W = .ok a.isNone W := by
 cases a <;> simp [Op.equalIn, al b]
theorem qF {b k e : TypeId} {x y : Operand} {a : Option Addr} (h : P.underlying b = some (.pointer e)) (i : gz E x = .pointer a) (j : gz E y = .pointer none) :
  iu P E ⟨d, .binOp .eql b x y k, ty, pos, af, g⟩ W (.bool a.isNone) W := by
 show (do let r ← (do eqGuard .eql b x y (gz E x) (gz E y); binOp .eql b (gz E x) (gz E y)); pure (.value r) : Sem Next).run P W = _
 rw [i, j]
 have c := sH 9999 h a W
 simp [eqGuard, binOp, Op.equal, show Op.maxDepth = 9999 + 1 from rfl, c]
theorem xk {b k e : TypeId} {x y : Operand} {a : Option Addr} (h : P.underlying b = some (.pointer e)) (i : gz E x = .pointer a) (j : gz E y = .pointer none) :
  iu P E ⟨d, .binOp .neq b x y k, ty, pos, af, g⟩ W (.bool !a.isNone) W := by
 show (do let r ← (do eqGuard .neq b x y (gz E x) (gz E y); binOp .neq b (gz E x) (gz E y)); pure (.value r) : Sem Next).run P W = _
 rw [i, j]
 have c := sH 9999 h a W
 simp [eqGuard, binOp, Op.equal, show Op.maxDepth = 9999 + 1 from rfl, c]
theorem kG {x : Operand} {t : TypeId} {s : ByteArray} (a : P.underlying t = some .string) (b : gz E x = .string s) : iu P E ⟨d, .call ⟨.builtin .len, #[x], #[t]⟩, ty, pos, af, g⟩ W (.int .i64 s.size) W := by
 show (do let d ← resolve (gz E) ⟨.builtin .len, #[x], #[t]⟩ ty; invoke d.target d.args : Sem Next).run P W = _
 simp [resolve, invoke, builtin, Builtin.len_, al a, b, goInt]
theorem vx {x : Operand} {t e : TypeId} {A : Option Addr} {l c : Nat} (a : P.underlying t = some (.slice e)) (b : gz E x = .slice A l c) : iu P E ⟨d, .call ⟨.builtin .len, #[x], #[t]⟩, ty, pos, af, g⟩ W (.int .i64 l) W := by
 show (do let d ← resolve (gz E) ⟨.builtin .len, #[x], #[t]⟩ ty; invoke d.target d.args : Sem Next).run P W = _
 simp [resolve, invoke, builtin, Builtin.len_, al a, b, goInt]
theorem lB {α : Type} {R : nM α} {k : Nat} {m : gS} {x : Operand} {t e : TypeId} {v : Value} {l : List α} (b : P.underlying t = some (.slice e)) (h : gz E x = v) (a : Sl R k m v l) : iu P E ⟨d, .call ⟨.builtin .len, #[x], #[t]⟩, ty, pos, af, g⟩ W (.int .i64 l.length) W := by
 obtain ⟨A, c, rfl, _⟩ := a
 exact vx b h
theorem rS {t : TypeId} {x a : Operand} {m : IntKind} {s : ByteArray} {i : Int} {c : UInt8} (k : P.underlying t = some .string) (l : gz E x = .string s) (h : gz E a = .int m i) (b : 0 ≤ i) (j : s[i.toNat]? = some c) :
  iu P E ⟨d, .index t x a, ty, pos, af, g⟩ W (.int .u8 c.toNat) W := by
 show (do pure (.value (← Instr.index t (gz E x) (gz E a))) : Sem Next).run P W = _
 rw [l, h]
 simp [Instr.index, asIntOf, al k, b, j]
def jx (P : Program) (t : TypeId) (f off : Nat) : Prop := ∀ b o w, (Instr.fieldAt t (.pointer (some ⟨b, o, none⟩)) f).run P w = .ok (.pointer (some ⟨b, o + off, none⟩)) w
theorem gE {t : TypeId} {x : Operand} {f off b o : Nat} (a : jx P t f off) (c : gz E x = .pointer (some ⟨b, o, none⟩)) : iu P E ⟨d, .fieldAddr t x f, ty, pos, af, g⟩ W (.pointer (some ⟨b, o + off, none⟩)) W := by
 show (do pure (.value (← Instr.fieldAt t (gz E x) f)) : Sem Next).run P W = _
 rw [c]; simp [a b o W]
theorem sP {t : TypeId} {x : Operand} {f off : Nat} {v : Value} {ys : List Value} (a : List Value) (k : jx P t f off) (n : gz E x = v) (m : At μ v ys) (p : (ys.drop off).take a.length = a) :
  ∃ h, At μ h a ∧ ∀ W, iu P E ⟨d, .fieldAddr t x f, ty, pos, af, g⟩ W h W := by
 obtain ⟨b, o, cs, T, fr, rfl, h1, i⟩ := m
 refine ⟨_, ⟨b, o + off, cs, T, fr, rfl, h1, fun j y c => ?_⟩, fun W => gE k n⟩
 have l : j < a.length := (aw.1 c).1
 have := i (off + j) y (by
  rw [← p, ck l, bY] at c
  exact c)
 rw [dh]
 exact this
theorem jj {x : Operand} {a : Addr} (b : gz E x = .pointer (some a)) : iu P E ⟨d, .nilCheck x, ty, pos, af, g⟩ W (.pointer (some a)) W := by
 unfold iu execOp
 simp [b]
theorem Aw {α : Type} {R : nM α} {k : Nat} {t e : TypeId} {x h : Operand} {Q : IntKind} {v : Value} {i : Int} {l : List α} {x0 : α} (L : P.underlying t = some (.slice e)) (he : ∀ w, (sizeOf e).run P w = .ok k w) (M : gz E x = v) (I : gz E h = .int Q i) (K : Sl R k μ v l) (n : 0 ≤ i) (m : l[i.toNat]? = some x0) :
  ∃ p ys, ys.length = k ∧ R μ ys x0 ∧ At μ p ys ∧ ∀ W, iu P E ⟨d, .indexAddr t x h, ty, pos, af, g⟩ W p W := by
 obtain ⟨A, c, rfl, U, Y, o⟩ := K
 have J : i.toNat < l.length := (aw.1 m).1
 obtain ⟨b, off, cs, T, fr, rfl, q, r⟩ := o (by omega)
 obtain ⟨ys, s, u, a⟩ := r i.toNat x0 m
 refine ⟨.pointer (some ⟨b, off + i.toNat * k, none⟩), ys, s, u, ⟨b, off + i.toNat * k, cs, T, fr, rfl, q, fun j y O => a j y O⟩, fun W => ?_⟩
 show (do pure (.value (← Instr.indexAt t (gz E x) (gz E h))) : Sem Next).run P W = _
 rw [M, I]
 have G : 0 ≤ i ∧ i < (l.length : Int) := ⟨n, by omega⟩
 simp [Instr.indexAt, asIntOf, al L, he W, G, bW]
theorem jL {α : Type} {enc : α → List Value} {k : Nat} {t e : TypeId} {x a : Operand} {s : IntKind} {v : Value} {i : Int} {l : List α} {x0 : α} (q : P.underlying t = some (.slice e)) (he : ∀ w, (sizeOf e).run P w = .ok k w) (r : gz E x = v) (m : gz E a = .int s i) (o : Sl (Pl enc) k μ v l) (b : 0 ≤ i) (n : l[i.toNat]? = some x0) :
  ∃ p, At μ p (enc x0) ∧ ∀ W, iu P E ⟨d, .indexAddr t x a, ty, pos, af, g⟩ W p W := by
 obtain ⟨p, ys, h1, c, h, j⟩ := Aw (d := d) (ty := ty) (pos := pos) (af := af) (g := g) q he r m o b n
 cases c
 exact ⟨p, h, j⟩
theorem yt (P : Program) {W : World} {b off : Nat} {cs : Array Value} {T : TypeId} {fr : Nat × Nat} (a : W.heap[b]? = some (.cells cs T fr)) (ys : List Value) (d : ∀ j y, ys[j]? = some y → cs[off + j]? = some y) :
  (loadCells ⟨b, off, none⟩ ys.length).run P W = .ok ys.toArray W :=
 eT W ⟨b, off, none⟩ ys (fun j v c => by rw [bW, dW W b (off + j) cs T fr a]; exact d j v c)
theorem s7 {W : World} {t : TypeId} {b off : Nat} {cs : Array Value} {T : TypeId} {fr : Nat × Nat} (a : ∀ w, (isAgg t).run P w = .ok true w) (ys : List Value) (c : ∀ w, (sizeOf t).run P w = .ok ys.length w) (d : W.heap[b]? = some (.cells cs T fr)) (g : ∀ j y, ys[j]? = some y → cs[off + j]? = some y) : (Instr.loadAt t (.pointer (some ⟨b, off, none⟩))).run P W = .ok (.agg ys.toArray) W := by
 simp [Instr.loadAt, Instr.sureAddr, loadVar, a W, c W, yt P d ys g]
theorem ta {W : World} {t : TypeId} {b off : Nat} {cs : Array Value} {T : TypeId} {fr : Nat × Nat} (a : ∀ w, (isAgg t).run P w = .ok false w) {y : Value} (c : W.heap[b]? = some (.cells cs T fr)) (g : cs[off]? = some y) : (Instr.loadAt t (.pointer (some ⟨b, off, none⟩))).run P W = .ok y W := by
 have d : W.cell? ⟨b, off, none⟩ = some y := by rw [dW W b off cs T fr c]; exact g
 simp [Instr.loadAt, Instr.sureAddr, loadVar, a W, load, Sem.run, d]
theorem gA {t : TypeId} {x : Operand} {a v : Value} (c : gz E x = a) (b : (Instr.loadAt t a).run P W = .ok v W) : iu P E ⟨d, .load t x, ty, pos, af, g⟩ W v W := by
 show (do pure (.value (← Instr.loadAt t (gz E x))) : Sem Next).run P W = _
 rw [c]; simp [b]
def my (μ : gS) (A : List (Nat × Obj)) (W : World) : Prop := (∀ b o, μ b = some o → W.heap[b]? = some o) ∧ ∀ b o, (b, o) ∈ A → W.heap[b]? = some o
theorem ST.has (h : ST dd F w W μ L) : my μ L W := ⟨h.mem, fun b o a => (h.box b o a).1⟩
theorem my.sub {μ' : gS} {A A' : List (Nat × Obj)} (h : my μ A W) (d : gZ μ' μ) (c : ∀ p, p ∈ A' → p ∈ A) : my μ' A' W := ⟨fun b o a => h.1 b o (d b o a), fun b o a => h.2 b o (c _ a)⟩
theorem lI {A : List (Nat × Obj)} (hH : my μ A W) {t : TypeId} {p : Value} {ys : List Value} (hp : At μ p ys) (c : ∀ w, (isAgg t).run P w = .ok true w) (d : ∀ w, (sizeOf t).run P w = .ok ys.length w) :
  (Instr.loadAt t p).run P W = .ok (.agg ys.toArray) W := by
 obtain ⟨b, off, cs, T, fr, rfl, h1, a⟩ := hp
 exact s7 c ys d (hH.1 _ _ h1) a
theorem kI {A : List (Nat × Obj)} (hH : my μ A W) {t : TypeId} {p y : Value} (hp : At μ p [y]) (c : ∀ w, (isAgg t).run P w = .ok false w) :
  (Instr.loadAt t p).run P W = .ok y W := by
 obtain ⟨b, off, cs, T, fr, rfl, h1, a⟩ := hp
 exact ta c (hH.1 _ _ h1) (a 0 y rfl)
theorem gK {A : List (Nat × Obj)} (hH : my μ A W) {t : TypeId} {b off : Nat} {cs : Array Value} {T : TypeId} {fr : Nat × Nat} (g : (b, Obj.cells cs T fr) ∈ A) (ys : List Value) (i : (cs.toList.drop off).take ys.length = ys) (d : ∀ w, (isAgg t).run P w = .ok true w) (h : ∀ w, (sizeOf t).run P w = .ok ys.length w) : (Instr.loadAt t (.pointer (some ⟨b, off, none⟩))).run P W = .ok (.agg ys.toArray) W :=
 s7 d ys h (hH.2 _ _ g) (fun j y a => by
  have c : j < ys.length := (aw.1 a).1
  rw [← i, ck c, bY] at a
  simpa using a)
theorem gN {A : List (Nat × Obj)} (hH : my μ A W) {t : TypeId} {b off : Nat} {cs : Array Value} {T : TypeId} {fr : Nat × Nat} (c : (b, Obj.cells cs T fr) ∈ A) {y : Value} (d : cs[off]? = some y) (a : ∀ w, (isAgg t).run P w = .ok false w) : (Instr.loadAt t (.pointer (some ⟨b, off, none⟩))).run P W = .ok y W :=
 ta a (hH.2 _ _ c) d
theorem kO {t : TypeId} {a : Array (Nat × Operand)} {qs : Array (Nat × Value)} {v : Value} (b : a.map (fun (i, x) => (i, gz E x)) = qs) (c : ∀ W, (Instr.build t qs).run P W = .ok v W) : iu P E ⟨d, .build t a, ty, pos, af, g⟩ W v W := by
 show (do pure (.value (← Instr.build t (a.map fun (i, x) => (i, gz E x)))) : Sem Next).run P W = _
 rw [b]; simp [c W]
theorem jH {t : TypeId} {z cs : Array Value} {fs : Array Field} {qs : Array (Nat × Value)} {pl : Array (Nat × Nat)} (c : ∀ w, (zeroValue t).run P w = .ok (.agg z) w) (b : P.underlying t = some (.struct fs)) (hp : ∀ w, (fs.mapM fun f => do pure (f.offset, ← sizeOf f.type) : Sem (Array (Nat × Nat))).run P w = .ok pl w) (a : Instr.fill (pl[·]?) z qs.toList = some cs) (W : World) : (Instr.build t qs).run P W = .ok (.agg cs) W := by
 simp only [Instr.build, aQ, c W, aH, al b, Value.cells]
 rw [hp W]
 simp only [aH, a, bq]
end
theorem uX {α : Type} : ∀ (a : Ask α) (w : World), w.drawn ≤ (w.ask a).2.drawn
 | .done a, w => by simp [World.ask]
 | .ask b range k, w => by
  unfold World.ask
  dsimp only
  split
  ·exact uX (k 0) w
  ·refine aX (fu w.drawn) ?_
   exact uX _ { w with drawn := w.drawn + 1 }
theorem Cq (w : World) (c : Sys) : w.drawn ≤ (w.sys c).2.drawn := by
 have h := uX (Kernel.perform c w.os) w
 unfold World.sys
 generalize w.ask (Kernel.perform c w.os) = r at *
 obtain ⟨⟨a, b⟩, w2⟩ := r
 cases a <;> simp at h ⊢ <;> exact h
theorem xg {p : Program} {w c : World} {a : Addr} {u : TypeId} {k : Addr} {v : Value} {b : Bool} {l : List Addr} (h : w.viewStore p a u k v b = .ok (c, l)) : c.drawn = w.drawn := by
 unfold World.viewStore at h
 simp only [bind, Except.bind, pure, Except.pure] at h
 split at h
 ·cases h
 ·split at h
  ·cases h
  ·split at h
   ·split at h
    ·cases h
    ·split at h
     ·cases h
     ·cases h; rfl
   ·cases h
theorem xF {p : Program} {w c : World} {a : Addr} {v : Value} {b : Bool} {l : List Addr} (h : w.farStore p a v b = .ok (c, l)) : c.drawn = w.drawn := by
 unfold World.farStore at h
 split at h
 ·split at h
  ·rename_i h1; cases h; exact xg h1
  ·cases h
 ·cases h
theorem kf {α : Type} {p : Program} : ∀ (s : Sem α) (w d : World) (a : α), s.run p w = .ok a d → w.drawn ≤ d.drawn
 | .pure a, w, d, b, h => by simp only [Sem.run] at h; cases h; exact aJ _
 | .load m a k, w, d, b, h => by
  simp only [Sem.run] at h
  split at h
  ·exact kf _ _ _ _ h
  ·split at h
   ·exact kf _ _ _ _ h
   ·cases h
 | .store m a v k, w, d, b, h => by
  have key : ∀ (r : Result α) i, r = .ok b d → (r = (match w.cell? a with
    | some _ => if w.frozen? a then .halt i w else k.run p (w.setCell a v)
    | none => match w.farStore p a v (m == .atomic) with
     | .ok (w, _) => k.run p w
     | .error h => .halt h w)) → w.drawn ≤ d.drawn := by
   intro r i j h
   rw [j] at h
   split at h
   ·split at h
    ·cases h
    ·have := kf k _ _ _ h.symm
     simpa [World.setCell] using this
   ·split at h
    ·rename_i h1
     have g := kf k _ _ _ h.symm
     rw [xF h1] at g
     exact g
    ·cases h
  cases v with
  | agg cs => simp only [Sem.run] at h; cases h
  | tuple cs => simp only [Sem.run] at h; cases h
  | _ => exact key _ _ h (by simp only [Sem.run]; rfl)
 | .new o k, w, d, b, h => by simp only [Sem.run] at h; have := kf (k _) _ _ _ h; exact this
 | .shape r k, w, d, b, h => by simp only [Sem.run] at h; exact kf _ _ _ _ h
 | .freeze a n k, w, d, b, h => by
  simp only [Sem.run] at h
  have := kf k _ _ _ h
  unfold World.freeze at this
  split at this <;> exact this
 | .frozen a k, w, d, b, h => by simp only [Sem.run] at h; exact kf _ _ _ _ h
 | .getObj r k, w, d, b, h => by
  simp only [Sem.run] at h
  split at h <;> try (cases h; done)
  exact kf _ _ _ _ h
 | .setObj r o k, w, d, b, h => by
  simp only [Sem.run] at h
  split at h <;> try (cases h; done)
  have := kf k _ _ _ h
  exact this
 | .choose q k, w, d, b, h => by
  simp only [Sem.run] at h
  split at h
  ·exact kf _ _ _ _ h
  ·exact aX (fu _) (kf _ _ _ _ h)
 | .sys c k, w, d, b, h => by
  simp only [Sem.run] at h
  exact aX (Cq w c) (kf _ _ _ _ h)
 | .program k, w, d, b, h => by simp only [Sem.run] at h; exact kf _ _ _ _ h
 | .mark m k, w, d, b, h => by simp only [Sem.run] at h; exact kf k _ _ _ h
 | .halt x, w, d, b, h => by simp only [Sem.run] at h; cases h
end Go.Proofs.YtbnbdigcbldfhaaGreat
namespace Go.Proofs.YtbnbdigcbldfhaaGreat
open Go.RowKit
variable [M : Md]
variable {dd : Bool}
section
variable {P : Program} {n : Nat} {Q : jW} {E : Nat → Value} {W : World} {ops : Array Oper} {rest : List Oper}
 {d : Option Nat} {ty : TypeId} {pos : String} {af : Array Edge} {g : Option (Nat × Bool)}
 {F : Nat → Prop} {w : World} {μ : gS} {L : List (Nat × Obj)}
def jh (P : Program) (E : Nat → Value) (o : Oper) (W : World) (K : Value → World → Prop) : Prop :=
 (∃ v W', (execOp (gz E) o).run P W = .ok (.value v) W' ∧ K v W') ∨ (∃ W', (execOp (gz E) o).run P W = .ok .skip W' ∧ K undef W') ∨
 (∃ f args, (execOp (gz E) o).run P W = .ok (.enter f args) W ∧ Calls P f args W fun e a => ∃ v, e = .returned v ∧ K v a)
theorem jh.mono {o : Oper} {K K' : Value → World → Prop} (h : jh P E o W K) (hk : ∀ v W', K v W' → K' v W') : jh P E o W K' := by
 rcases h with ⟨v, W', h1, a⟩ | ⟨W', h1, a⟩ | ⟨f, args, h1, a⟩
 ·exact .inl ⟨v, W', h1, hk _ _ a⟩
 ·exact .inr (.inl ⟨W', h1, hk _ _ a⟩)
 ·exact .inr (.inr ⟨f, args, h1, bf a (fun _ _ ⟨v, b, c⟩ => ⟨v, b, hk _ _ c⟩)⟩)
theorem EH {o : Oper} {dd : Nat} (hw : mu n ops E o) (d : o.dst = some dd) (g : dd < n) (h : jh P E o W fun v W' => LW P n ops Q rest (jw E dd v) W') : LW P n ops Q (o :: rest) E W := by
 rcases h with ⟨v, W', h1, b⟩ | ⟨W', h1, b⟩ | ⟨f, args, h1, b⟩
 ·exact BL hw d g h1 b
 ·intro a c
  unfold wpListIn
  rw [ak (hw.of c)]
  unfold Oper.wpIn
  refine ⟨fun _ _ => trivial, ?_⟩
  rw [c.eval, pY h1 (by simp), Oper.uponIn_skip, d]
  exact b _ (c.put g _)
 ·exact CS hw d g h1 b
theorem Fb {o : Oper} (hw : mu n ops E o) (d : o.dst = none) (h : jh P E o W fun _ W' => LW P n ops Q rest E W') : LW P n ops Q (o :: rest) E W := by
 rcases h with ⟨v, W', h1, c⟩ | ⟨W', h1, c⟩ | ⟨f, args, h1, c⟩
 ·intro a b
  unfold wpListIn
  rw [ak (hw.of b)]
  unfold Oper.wpIn
  refine ⟨fun _ _ => trivial, ?_⟩
  rw [b.eval, pY h1 (by simp), Oper.uponIn_value, d]
  exact c _ (b.qR _)
 ·exact CY hw d h1 c
 ·intro a b
  unfold wpListIn
  rw [ak (hw.of b)]
  unfold Oper.wpIn
  refine ⟨fun _ _ => trivial, ?_⟩
  rw [b.eval, pY h1 (by simp), Oper.uponIn_enter]
  refine xw (bf c ?_)
  rintro e i ⟨v, rfl, g⟩
  simp only [d]
  exact g _ (b.qR _)
theorem iO {K : Value → World → Prop} {t : TypeId} {x : Operand} {v : Value} (a : ST dd F w W μ L) (c : gz E x = v) (h : ∀ W' b, ST dd F w W' μ ((b, .cells v.cells t (0, 0)) :: L) → K (.pointer (some ⟨b, 0, none⟩)) W') : jh P E ⟨d, .box t x, ty, pos, af, g⟩ W K :=
 .inl ⟨.pointer (some ⟨W.heap.size, 0, none⟩), W.alloc (.cells v.cells t (0, 0)), by
   show (do pure (.value (← Instr.box t (gz E x))) : Sem Next).run P W = _
   rw [c]
   simp [Instr.box, newVar, newRow, newObj, Sem.run], h _ _ (a.alloc _)⟩
theorem iZ {K : Value → World → Prop} {t : TypeId} {z : Value} (a : ST dd F w W μ L) (c : ∀ w, (zeroValue t).run P w = .ok z w) (h : ∀ W' b, ST dd F w W' μ ((b, .cells z.cells t (0, 0)) :: L) → K (.pointer (some ⟨b, 0, none⟩)) W') : jh P E ⟨d, .alloc t, ty, pos, af, g⟩ W K :=
 .inl ⟨.pointer (some ⟨W.heap.size, 0, none⟩), W.alloc (.cells z.cells t (0, 0)), by
   show (do pure (.value (← Instr.alloc t true (.tuple #[]))) : Sem Next).run P W = _
   simp [Instr.alloc, c W, newVar, newRow, newObj, Sem.run], h _ _ (a.alloc _)⟩
theorem xt {t e : TypeId} {m k : Nat} {z : Value} {qs : Array (Nat × Value)} {cs : Array Value} (d : P.underlying t = some (.slice e)) (c : ∀ w, (sizeOf e).run P w = .ok k w) (g : ∀ w, (zeroValue e).run P w = .ok z w) (hm : m * k ≤ 16777216) (a : Instr.fill (fun i => some (i * k, k)) ((Array.range (m * k)).map (fun i => (if m * k = 0 then (#[] : Array Value) else z.cells)[i % (if m * k = 0 then (#[] : Array Value) else z.cells).size]!)) qs.toList = some cs) (W : World) :
  (Instr.buildSlice t m qs).run P W = .ok (.slice (some ⟨W.heap.size, 0, none⟩) m m) (W.alloc (.cells cs e (0, 0))) := by
 simp only [Instr.buildSlice, aQ, al d, aH, c W]
 rw [ai (by omega)]
 by_cases b : m * k = 0
 ·simp only [b, aY] at a ⊢
  simp only [aQ, bq, aH, a]
  simp [newRow, newObj, Sem.run]
 ·simp only [b, bj] at a ⊢
  simp only [aQ, g W, bq, aH, a]
  simp [newRow, newObj, Sem.run]
theorem ig {K : Value → World → Prop} {t e : TypeId} {m : Nat} {c : Array (Nat × Operand)} {qs : Array (Nat × Value)} {cs : Array Value} (a : ST dd F w W μ L) (j : c.map (fun (i, x) => (i, gz E x)) = qs) (k : ∀ W, (Instr.buildSlice t m qs).run P W = .ok (.slice (some ⟨W.heap.size, 0, none⟩) m m) (W.alloc (.cells cs e (0, 0)))) (h : ∀ W' b, ST dd F w W' μ ((b, .cells cs e (0, 0)) :: L) → K (.slice (some ⟨b, 0, none⟩) m m) W') : jh P E ⟨d, .buildSlice t m c, ty, pos, af, g⟩ W K :=
 .inl ⟨.slice (some ⟨W.heap.size, 0, none⟩) m m, W.alloc (.cells cs e (0, 0)), by
   show (do pure (.value (← Instr.buildSlice t m (c.map fun (i, x) => (i, gz E x)))) : Sem Next).run P W = _
   rw [j]
   simp [k W], h _ _ (a.alloc _)⟩
theorem ST.store {A B : List (Nat × Obj)} {b : Nat} {cs : Array Value} {t : TypeId} (c : ST dd F w W μ (A ++ (b, .cells cs t (0, 0)) :: B)) (a : Array Value) :
  ST dd F w (W.setRow b a) μ (A ++ (b, .cells a t (0, 0)) :: B) := by
 have d := (c.box b _ (by simp : (b, Obj.cells cs t (0, 0)) ∈ A ++ (b, .cells cs t (0, 0)) :: B)).1
 refine c.put ⟨rfl, rfl, rfl, aJ _, by simp [World.setRow]⟩ (fun k hk => ?_) (setRow_heap W b cs a t (0, 0) d)
 simp only [World.setRow, bV]
 rw [ai (fun e => hk e.symm)]
theorem th (P : Program) {W : World} {t : TypeId} {b off : Nat} {cs : Array Value} {T : TypeId} (v : Value) (a : ∀ w, (sizeOf t).run P w = .ok v.cells.size w) (h1 : ∀ u ∈ v.cells.toList, u.oneCell' = true) (c : W.heap[b]? = some (.cells cs T (0, 0))) (d : off + v.cells.size ≤ cs.size) : (Instr.storeAt t (.pointer (some ⟨b, off, none⟩)) v).run P W = .ok () (W.setRow b (cs.toList.take off ++ v.cells.toList ++ cs.toList.drop (off + v.cells.size)).toArray) := by
 have := fw (P := P) b off T v.cells.toList 0 cs W c (by simpa using d) h1
 simp [Instr.storeAt, Instr.sureAddr, storeVar, a W]
 simpa using this
theorem vz {K : Value → World → Prop} (A : List (Nat × Obj)) {B : List (Nat × Obj)} {t : TypeId} {x y : Operand} (v : Value) {b off : Nat} {cs : Array Value} {T : TypeId} (a : Array Value) (c : ST dd F w W μ (A ++ (b, .cells cs T (0, 0)) :: B)) (m : gz E x = .pointer (some ⟨b, off, none⟩)) (n : gz E y = v) (i : ∀ w, (sizeOf t).run P w = .ok v.cells.size w) (h1 : ∀ u ∈ v.cells.toList, u.oneCell' = true) (l : off + v.cells.size ≤ cs.size) (k : (cs.toList.take off ++ v.cells.toList ++ cs.toList.drop (off + v.cells.size)).toArray = a) (h : ∀ W', ST dd F w W' μ (A ++ (b, .cells a T (0, 0)) :: B) → K undef W') : jh P E ⟨d, .store t x y, ty, pos, af, g⟩ W K :=
 .inr (.inl ⟨W.setRow b a, by
   show (do Instr.storeAt t (gz E x) (gz E y); pure .skip : Sem Next).run P W = _
   have j := (c.box b _ (by simp : (b, Obj.cells cs T (0, 0)) ∈ A ++ (b, .cells cs T (0, 0)) :: B)).1
   rw [m, n]
   simp only [aQ, th P v i h1 j l, k, aH, bq], h _ (c.store a)⟩)
def iA (dd : Bool) (P : Program) (f : FuncId) (args : List Value) (w : World) (v : Value) : Prop := Calls P f args.toArray w fun e a => e = .returned v ∧ Ex dd w a
theorem BG {f : FuncId} {fv : Operand} {ax : Array Operand} {ats : Array TypeId} {caps args : Array Value} (b : gz E fv = .func (.func f) #[] caps) (he : ∀ args w, (callFunc f args).run P w = .ok (.enter f args) w) (a : ax.map (gz E) ++ caps = args) :
  (execOp (gz E) ⟨d, .call ⟨.value fv, ax, ats⟩, ty, pos, af, g⟩).run P W = .ok (.enter f args) W := by
 show (do let d ← resolve (gz E) ⟨.value fv, ax, ats⟩ ty; invoke d.target d.args : Sem Next).run P W = _
 rw [← a]
 simp only [resolve, b, Deferred.ofValue, aQ, bq, aH, invoke]
 simp [he]
theorem vp {K : Value → World → Prop} {f : FuncId} {fv : Operand} {ax : Array Operand} {ats : Array TypeId} {caps args : Array Value} (b : gz E fv = .func (.func f) #[] caps) (he : ∀ args w, (callFunc f args).run P w = .ok (.enter f args) w) (a : ax.map (gz E) ++ caps = args) (h : Calls P f args W fun e c => ∃ v, e = .returned v ∧ K v c) : jh P E ⟨d, .call ⟨.value fv, ax, ats⟩, ty, pos, af, g⟩ W K :=
 .inr (.inr ⟨f, args, BG b he a, h⟩)
theorem D8 {K : Value → World → Prop} {f : FuncId} {fv : Operand} {ax : Array Operand} {ats : Array TypeId} {args : List Value} {v : Value} (a : ST dd F w W μ L) (j : gz E fv = .func (.func f) #[] #[]) (he : ∀ args w, (callFunc f args).run P w = .ok (.enter f args) w) (c : (ax.map (gz E) ++ (#[] : Array Value)) = args.toArray) (i : iA dd P f args W v) (h : ∀ W', ST dd F w W' μ L → K v W') : jh P E ⟨d, .call ⟨.value fv, ax, ats⟩, ty, pos, af, g⟩ W K :=
 vp j he c (bf i (fun _ _ ⟨h1, b⟩ => ⟨v, h1, h _ (a.Bi b)⟩))
def gM {α : Type} (e : TypeId) (enc : α → List Value) (k : Nat) (v : Value) (l : List α) (R : List (Nat × Obj)) : Prop :=
 (v = .slice none 0 0 ∧ l = [] ∧ R = []) ∨
 ∃ g cap a, v = .slice (some ⟨g, 0, none⟩) l.length cap ∧ R = [(g, .cells a e (0, 0))] ∧ l.length ≤ cap ∧ cap ≤ maxLen ∧ a.size = cap * k ∧ a.toList.take (l.length * k) = (l.map enc).flatten
theorem lu {α : Type} {enc : α → List Value} {k : Nat} (hk : ∀ x, (enc x).length = k) : ∀ l : List α, (l.map enc).flatten.length = l.length * k
 | [] => by simp
 | x :: l => by simp [lu hk l, hk x, aW, Nat.add_comm]
theorem pZ {α : Type} {enc : α → List Value} {k : Nat} (hk : ∀ x, (enc x).length = k) : ∀ (l : List α) (i : Nat) (x : α), l[i]? = some x → ∀ j y, (enc x)[j]? = some y → (l.map enc).flatten[i * k + j]? = some y
 | [], i, x, h => by cases h
 | z :: l, 0, x, h => by
  simp at h; subst h
  intro j y a
  have b : j < (enc z).length := (aw.1 a).1
  simp [dA, b]
  rw [bE b] at a
  simpa using a
 | z :: l, i + 1, x, h => by
  intro j y a
  have := pZ hk l i x (by simpa using h) j y a
  simp only [aM, bB]
  rw [dB (by rw [hk z]; have := Nat.le_mul_of_pos_left k (Nat.succ_pos i); simp [aW] at *; omega), hk z]
  rw [show (i + 1) * k + j - k = i * k + j by rw [aW]; omega]
  exact this
theorem wx {α : Type} {enc : α → List Value} {k : Nat} (hk : ∀ x, (enc x).length = k) : ∀ (l : List α) (q : Nat) (y : Value), (l.map enc).flatten[q]? = some y → ∃ i x j, l[i]? = some x ∧ (enc x)[j]? = some y ∧ q = i * k + j
 | [], q, y, h => by simp at h
 | z :: l, q, y, h => by
  simp only [aM, bB] at h
  by_cases b : q < k
  ·rw [List.getElem?_append_left (by rw [hk]; exact b)] at h
   exact ⟨0, z, q, rfl, h, by simp⟩
  ·rw [dB (by rw [hk]; omega), hk] at h
   obtain ⟨i, x, j, h1, a, c⟩ := wx hk l (q - k) y h
   exact ⟨i + 1, x, j, by simpa using h1, a, by rw [aW]; omega⟩
theorem gM.nil {α : Type} (e : TypeId) (enc : α → List Value) (k : Nat) : gM e enc k (.slice none 0 0) [] [] := .inl ⟨rfl, rfl, rfl⟩
theorem gM.sl {α : Type} {e : TypeId} {enc : α → List Value} {k : Nat} {v : Value} {l : List α} {R : List (Nat × Obj)} {m : gS} (h : gM e enc k v l R) (hk : ∀ x, (enc x).length = k) (hm : ∀ b o, (b, o) ∈ R → m b = some o) : Sl (Pl enc) k m v l := by
 rcases h with ⟨rfl, rfl, rfl⟩ | ⟨g, cap, a, rfl, rfl, h1, d, r, n⟩
 ·exact Sl.nil _ _ _
 ·refine ⟨_, cap, rfl, h1, d, fun _ => ⟨g, 0, a, e, (0, 0), rfl, hm _ _ (by simp), fun i x p => ⟨enc x, hk x, rfl, fun j y q => ?_⟩⟩⟩
  have := pZ hk l i x p j y q
  rw [← n] at this
  have c : i * k + j < l.length * k := by
   have := (aw.1 this).1
   simp at this; omega
  rw [ck c] at this
  simpa using this
theorem gM.len {α : Type} {e : TypeId} {enc : α → List Value} {k : Nat} {v : Value} {l : List α} {R : List (Nat × Obj)} (h : gM e enc k v l R) : l.length ≤ 9223372036854775807 := by
 rcases h with ⟨rfl, rfl, rfl⟩ | ⟨g, cap, a, rfl, rfl, h1, b, c, d⟩
 ·simp
 ·unfold maxLen at b; omega
theorem gM.fr {α : Type} {e : TypeId} {enc : α → List Value} {k : Nat} {v : Value} {l : List α} {R X Y : List (Nat × Obj)} (h : gM e enc k v l R) (a : ST dd ia w W μ (X ++ (R ++ Y))) : Fr w.heap.size v := by
 rcases h with ⟨rfl, rfl, rfl⟩ | ⟨g, cap, d, rfl, rfl, h1, i, j, m⟩
 ·exact Fr.nil _
 ·intro b c
  simp [Value.ownBlock] at c
  subst c
  rcases (a.box g _ (by simp; exact .inr (.inl rfl))).2.2 with h | h
  ·exact h
  ·exact h.elim
theorem gM.lit {α : Type} {e : TypeId} {enc : α → List Value} {k b m : Nat} {l : List α} {cs : Array Value} (hm : l.length = m) (c : m ≤ maxLen) (d : cs.toList = (l.map enc).flatten) (a : cs.size = m * k) : gM e enc k (.slice (some ⟨b, 0, none⟩) m m) l [(b, .cells cs e (0, 0))] := by
 subst hm
 refine .inr ⟨b, _, cs, rfl, rfl, aJ _, c, a, ?_⟩
 rw [← d, ← a]
 exact bM (by rw [cd]; exact aJ _)
def je {α : Type} (a : Nat) (l m : List α) : Option (List α) := if (l.length + m.length) * a ≤ 140737488355328 ∧ l.length + m.length ≤ maxLen then some (l ++ m) else none
theorem wv {K : Value → World → Prop} {α : Type} {e t : TypeId} {enc : α → List Value} {k ao : Nat} {z v vs : Value} {l m r : List α} {R : List (Nat × Obj)} (X : List (Nat × Obj)) {Y : List (Nat × Obj)} {x y : Operand} {i : TypeInfo} (p : ST dd F w W μ (X ++ (R ++ Y))) (hk : ∀ x, (enc x).length = k) (c5 : 0 < k) (h1 : ∀ x, ∀ u ∈ enc x, u.oneCell' = true) (ht : P.underlying t = some (.slice e)) (hi : P.info? e = some i) (hz : i.zero = some z) (c9 : z.cells.size = k) (c6 : i.size = k) (c3 : i.bytes = ao) (hx : gz E x = v) (hy : gz E y = vs) (hR : gM e enc k v l R) (hs : Sl (Pl enc) k (hp W) vs m) (n : je ao l m = some r) (h : ∀ W' v' R', ST dd F w W' μ (X ++ (R' ++ Y)) → gM e enc k v' r R' → K v' W') : jh P E ⟨d, .call ⟨.builtin .append, #[x, y], #[t, t]⟩, ty, pos, af, g⟩ W K := by
 unfold je at n
 split at n
 case isFalse => cases n
 rename_i b2
 cases n
 have ab : ∀ (V : Value) (W' : World), (Builtin.append_ #[t, t] ty #[v, vs]).run P W = .ok V W' → (execOp (gz E) ⟨d, .call ⟨.builtin .append, #[x, y], #[t, t]⟩, ty, pos, af, g⟩).run P W = .ok (.value V) W' := by
  intro V W' hV
  show (do let d ← resolve (gz E) ⟨.builtin .append, #[x, y], #[t, t]⟩ ty; invoke d.target d.args : Sem Next).run P W = _
  simp [resolve, invoke, builtin, hx, hy, hV]
 obtain ⟨A, c, rfl, cf, cm, c4⟩ := hs
 have a8 : W.ownsRow 0 e k v l.length (l.map enc).flatten := by
  refine ⟨lu hk l, ?_⟩
  rcases hR with ⟨rfl, rfl, rfl⟩ | ⟨g, cap, J, rfl, rfl, h1, h2, h3, h4⟩
  ·exact .inl ⟨rfl, rfl⟩
  ·exact .inr ⟨g, cap, J, rfl, eC _, (p.box g _ (by simp)).1, h1, h2, h3, h4⟩
 have ba : m.length = 0 ∨ ∃ ad, A = some ad ∧ ∀ j u, (m.map enc).flatten[j]? = some u → W.cell? (ad.add j) = some u := by
  rcases cu m.length with O | O
  ·exact .inl O
  ·obtain ⟨b, off, cs, T, fr, rfl, h6, h7⟩ := c4 O
   refine .inr ⟨⟨b, off, none⟩, rfl, fun j u hu => ?_⟩
   obtain ⟨i, x, q, h8, h9, rfl⟩ := wx hk m j u hu
   obtain ⟨ys, _, bc, bh⟩ := h7 i x h8
   cases bc
   rw [bW, dW W b (off + (i * k + q)) cs T fr h6, ← dh]
   exact bh q u h9
 have b9 : ∀ u ∈ (m.map enc).flatten, u.oneCell' = true := by
  intro u hu
  obtain ⟨ys, c8, c7⟩ := fS.1 hu
  obtain ⟨x, _, rfl⟩ := aK.1 c8
  exact h1 x u c7
 by_cases b6 : m.length = 0
 ·have hm : m = [] := bL b6
  subst hm
  have hr : (Builtin.append_ #[t, t] ty #[v, .slice A 0 c]).run P W = .ok v W := by
   rcases a8.2 with ⟨rfl, O⟩ | ⟨g, cap, J, rfl, _, hg, b7, _, cp, _⟩
   ·cases A with
    | none => simp [Builtin.append_, al ht, sizeOf, typeInfo, hi, Builtin.lenOf, Builtin.firstCells]
    | some ad => simp [Builtin.append_, al ht, sizeOf, typeInfo, hi, Builtin.lenOf, Builtin.firstCells, loadCells, loadCellsFrom]
   ·cases A with
    | none => simp [Builtin.append_, al ht, sizeOf, typeInfo, hi, Builtin.lenOf, Builtin.firstCells, b7, storeCells]
    | some ad => simp [Builtin.append_, al ht, sizeOf, typeInfo, hi, Builtin.lenOf, Builtin.firstCells, loadCells, loadCellsFrom, b7, storeCells]
  exact .inl ⟨v, W, ab _ _ (by simpa using hr), by simpa using h W v R p (by simpa using hR)⟩
 rcases ba with O | ⟨ad, rfl, a1⟩
 ·exact absurd O b6
 obtain ⟨v', W', hr, b0, s, cb, M⟩ := run_append_own_at (P := P) W 0 t ty e i z k ao ht hi hz c6 c3 c9 c5 v l.length (l.map enc).flatten a8 ad m.length c (m.map enc).flatten (lu hk m) a1 b9 b2.2 b2.1 (eC _)
 have av := kf _ _ _ _ hr
 refine .inl ⟨v', W', ab _ _ hr, ?_⟩
 have hlen : (l ++ m).length = l.length + m.length := by simp
 rcases b0.2 with ⟨_, O⟩ | ⟨g', a6, a7, rfl, _, aE, ca, b3, b4, bb⟩
 ·omega
 have b1 : gM e enc k (.slice (some ⟨g', 0, none⟩) (l.length + m.length) a6) (l ++ m) [(g', .cells a7 e (0, 0))] :=
  .inr ⟨g', a6, a7, by rw [hlen], rfl, by omega, b3, b4, by rw [hlen, bb]; simp⟩
 refine h W' _ _ ?_ b1
 have b8 := p.nd
 rcases hR with ⟨rfl, rfl, rfl⟩ | ⟨g, cap, J, rfl, rfl, q1, q2, q3, q4⟩
 ·-- nil: a new block
  have U : W.heap.size ≤ g' := by
   rcases M with h | h <;> simp [Value.ownBlock] at h
   omega
  have hex : Ex dd W W' := ⟨s.os, s.tape, s.output, ng.of av, s.size, fun b n => s.block b n (by simp [Value.ownBlock])⟩
  have h1 := p.Bi hex
  refine ⟨h1.os, h1.tape, h1.output, h1.drawn, h1.size, h1.iG, h1.mem, fun b o n => ?_, ?_⟩
  ·simp only [aG, aA] at n
   rcases n with n | n | n
   ·exact h1.box b o (by simp [n])
   ·cases n
    refine ⟨aE, ?_, .inl (aX p.size U)⟩
    cases hm : μ g' with
    | none => rfl
    | some x => have := p.vm hm; omega
   ·exact h1.box b o (by simp [n])
  ·simp only [bn, aO, aM, ej] at b8 ⊢
   refine (dN cE).2 (bO.2 ⟨fun hm => ?_, b8⟩)
   rw [← aO] at hm
   obtain ⟨⟨b, o⟩, n, L⟩ := aK.1 hm
   have c0 : (b, o) ∈ X ++ ([] ++ Y) := by simpa using n
   have := p.wS c0
   simp at L
   omega
 ·by_cases b5 : g' = g
  ·subst b5
   have O : ST dd F w W μ (X ++ (g', Obj.cells J e (0, 0)) :: Y) := by simpa using p
   have hold : ∀ b, b < W.heap.size → b ≠ g' → W'.heap[b]? = W.heap[b]? := fun b n I => s.block b n (by simp [Value.ownBlock]; exact I)
   have G := O.nd
   simp only [aO, aM] at G
   have I : ∀ b o, (b, o) ∈ X ++ Y → b ≠ g' := fun b o n L => by
    subst L
    rcases aG.1 n with n | n
    ·exact (aD.1 G).2.2 b (aK.2 ⟨_, n, rfl⟩) b (by simp) rfl
    ·exact (bO.1 (aD.1 G).2.1).1 (aK.2 ⟨_, n, rfl⟩)
   have Q := O.box g' (Obj.cells J e (0, 0)) (by simp)
   refine ⟨s.os.trans p.os, s.tape.trans p.tape, s.output.trans p.output, ng.trans p.drawn (ng.of av), aX p.size s.size, fun b n hF => ?_, fun b o n => ?_, fun b o n => ?_, by simpa using G⟩
   ·rw [hold b (ct n p.size) (fun L => by subst L; rcases Q.2.2 with h | h; omega; exact hF h)]
    exact p.iG b n hF
   ·rw [hold b (p.vm n) (fun L => by subst L; rw [Q.2.1] at n; cases n)]
    exact p.mem b o n
   ·simp only [aG, aA] at n
    rcases n with n | n | n
    ·obtain ⟨Z, r2⟩ := p.box b o (by simp [n])
     exact ⟨by rw [hold b (jI Z) (I b o (by simp [n]))]; exact Z, r2⟩
    ·cases n; exact ⟨aE, Q.2⟩
    ·obtain ⟨Z, r2⟩ := p.box b o (by simp [n])
     exact ⟨by rw [hold b (jI Z) (I b o (by simp [n]))]; exact Z, r2⟩
  ·have U : W.heap.size ≤ g' := by
    rcases M with h | h <;> simp [Value.ownBlock] at h
    ·exact absurd h b5
    ·omega
   have O : ST dd F w W μ (X ++ (g, Obj.cells J e (0, 0)) :: Y) := by simpa using p
   have Q := O.box g (Obj.cells J e (0, 0)) (by simp)
   have G := O.nd
   simp only [aO, aM] at G
   have I : ∀ b o, (b, o) ∈ X ++ Y → b ≠ g := fun b o n L => by
    subst L
    rcases aG.1 n with n | n
    ·exact (aD.1 G).2.2 b (aK.2 ⟨_, n, rfl⟩) b (by simp) rfl
    ·exact (bO.1 (aD.1 G).2.1).1 (aK.2 ⟨_, n, rfl⟩)
   have hold : ∀ b, b < W.heap.size → b ≠ g → W'.heap[b]? = W.heap[b]? := fun b n I => s.block b n (by simp [Value.ownBlock]; exact I)
   refine ⟨s.os.trans p.os, s.tape.trans p.tape, s.output.trans p.output, ng.trans p.drawn (ng.of av), aX p.size s.size, fun b n hF => ?_, fun b o n => ?_, fun b o n => ?_, ?_⟩
   ·rw [hold b (ct n p.size) (fun L => by subst L; rcases Q.2.2 with h | h; omega; exact hF h)]
    exact p.iG b n hF
   ·rw [hold b (p.vm n) (fun L => by subst L; rw [Q.2.1] at n; cases n)]
    exact p.mem b o n
   ·simp only [aG, aA] at n
    rcases n with n | n | n
    ·obtain ⟨Z, r2⟩ := p.box b o (by simp [n])
     exact ⟨by rw [hold b (jI Z) (I b o (by simp [n]))]; exact Z, r2⟩
    ·cases n
     refine ⟨aE, ?_, .inl (aX p.size U)⟩
     cases hm : μ g' with
     | none => rfl
     | some x => have := p.vm hm; omega
    ·obtain ⟨Z, r2⟩ := p.box b o (by simp [n])
     exact ⟨by rw [hold b (jI Z) (I b o (by simp [n]))]; exact Z, r2⟩
   ·have bs : (X.map (·.1) ++ Y.map (·.1)).Nodup := (bO.1 ((dN cE).1 G)).2
    simp only [aO, aM, ej]
    refine (dN cE).2 (bO.2 ⟨fun hm => ?_, bs⟩)
    rw [← aO] at hm
    obtain ⟨⟨b, o⟩, n, L⟩ := aK.1 hm
    have := p.wS (b := b) (o := o) (by rcases aG.1 n with h | h <;> simp [h])
    simp at L
    omega
end
end Go.Proofs.YtbnbdigcbldfhaaGreat
namespace Go.Proofs.YtbnbdigcbldfhaaGreat
open Go.RowKit
variable [M : Md]
def qn (l : List Value) : Nat → Value := fun t => l.getD t undef
def oG (P : Program) (fn : Func) (R : Ending → World → Prop) : jW
 | .normal, E, W | .ret, E, W => ∃ v, (∀ tmps : Array Value, (∀ t, tmps.getD t undef = E t) → (results fn tmps).run P W = .ok v W) ∧ R (.returned v) W
 | _, _, _ => False
theorem pN {P : Program} {f : FuncId} {fn : Func} {c : Code} {args : List Value} {w : World} {R : Ending → World → Prop} {n : Nat} (o : P.funcs[f]? = some fn) (m : fn.body = some c) (q : fn.ntmps = n) (p : args.length ≤ n) (h : @CW qo P n c (oG P fn R) (qn args) w) : Calls P f args.toArray w R := by
 refine calls_of_wp o m ?_
 have i : @Ag qo n { tmps := args.toArray ++ Array.replicate (fn.ntmps - args.toArray.size) undef, defers := [] } (qn args) := by
  refine ⟨by simp; omega, rfl, fun t => ?_⟩
  simp only [qn, cx, List.getD_eq_getElem?_getD, ek, Array.getElem?_replicate, cg, dw]
  by_cases k : t < args.length
  ·rw [ak k]
  ·rw [ai k, cA (by omega)]
   split <;> simp
 refine wp_mono ((wpIn_wide (n := 0)).1 (h _ i)) (fun e a r d => ?_)
 cases e with
 | normal =>
  obtain ⟨E, b, v, j, g⟩ := d
  exact ⟨b.2.1, v, j _ b.2.2, g⟩
 | ret =>
  obtain ⟨E, b, v, j, g⟩ := d
  exact ⟨b.2.1, v, j _ b.2.2, g⟩
 | exit id => obtain ⟨E, b, h⟩ := d; exact h.elim
 | goto l => obtain ⟨E, b, h⟩ := d; exact h.elim
 | panic c => exact d.2.elim
 | outgrown => exact d.elim
section
variable {P : Program} {fn : Func} {R : Ending → World → Prop} {E : Nat → Value} {W : World}
theorem iC {r : Tmp} {v : Value} (a : fn.results = #[.tmp r]) (c : E r = v) (h : R (.returned v) W) : oG P fn R .ret E W :=
 ⟨v, fun tmps b => by rw [results_tmp a, b, c], h⟩
theorem w5 {r s : Tmp} {v u : Value} (b : fn.results = #[.tmp r, .tmp s]) (c : E r = v) (hu : E s = u) (h : R (.returned (.tuple #[v, u])) W) : oG P fn R .ret E W :=
 ⟨.tuple #[v, u], fun tmps a => by rw [results_tmp2 b, a, a, c, hu], h⟩
theorem nj (a : fn.results = #[]) (h : R (.returned (.tuple #[])) W) : oG P fn R .ret E W :=
 ⟨.tuple #[], fun tmps _ => by rw [results_none a], h⟩
theorem oS (h : oG P fn R .ret E W) : oG P fn R .normal E W := h
end
section
variable {Q : jW} {E : Nat → Value} {W : World} {K : (Nat → Value) → World → Prop} {id j : Nat}
theorem im (h : Q .normal E W) : pk id Q .normal E W := h
theorem ko (h : Q .ret E W) : pk id Q .ret E W := h
theorem sb (h : Q .normal E W) : pk id Q (.exit id) E W := by simp [pk]; exact h
theorem gI (h : K E W) : kP K Q .normal E W := h
theorem iw (h : Q .ret E W) : kP K Q .ret E W := h
theorem ns (h : Q (.exit j) E W) : kP K Q (.exit j) E W := h
end
theorem BK {i N : Nat} (b : i < N) (a : N ≤ 9223372036854775807) : IntKind.i64.wrap ((i : Int) + 1) = ((i + 1 : Nat) : Int) := by
 rw [IntWalk.i64_in _ (by omega)]
 omega
theorem iL {P : Program} {n : Nat} {Q : jW} {E : Nat → Value} {W : World} {g r Y Z o p A t : Nat} {t1 t2 t3 t4 t5 t6 t7 : TypeId} {R T U : String} {f1 f2 f3 : Array Edge} {body : Code} (I : Nat → (Nat → Value) → World → Prop) (N : Nat) (L : N ≤ 9223372036854775807) (G : I 0 E W) (M : o < n) (O : t < n) (y : p < n) (K : ∀ i E W, I i E W → E p = .int .i64 (i : Nat) ∧ E A = .int .i64 (N : Nat)) (round : ∀ i E W, i < N → I i E W → CW P n (.block r body) (kP (fun E' W' => E' p = .int .i64 (i : Nat) ∧ I (i + 1) (jw (jw E' t (.int .i64 ((i + 1 : Nat) : Int))) p (.int .i64 ((i + 1 : Nat) : Int))) W') (pk g Q)) (jw E o (.bool true)) W) (done : ∀ E W, I N E W → Q .normal (jw E o (.bool false)) W) :
  CW P n (.block g (.loop (.seq (.region Y #[⟨some o, .binOp .lss t1 (.tmp p) (.tmp A) t2, t3, R, f1, none⟩] false)
   (.seq (.cond (.tmp o) .skip (.exit g)) (.seq (.block r body)
    (.region Z #[⟨some t, .binOp .add t4 (.tmp p) (.const (.int .i64 1)) t5, t6, T, f2, none⟩, ⟨some p, .move (.tmp t), t7, U, f3, none⟩] false)))))) Q E W := by
 refine jl (mc (fun m E W => ∃ i, i ≤ N ∧ m = N - i ∧ I i E W) N ⟨0, eC _, by omega, G⟩ ?_)
 rintro m E W ⟨i, hi, rfl, d⟩
 obtain ⟨u, w⟩ := K i E W d
 refine gO (gJ (xK (.inl rfl) rfl M (jm u w rfl) (gT ?_)))
 refine gI (gO ?_)
 have s : jw E o (.bool (decide ((i : Int) < (N : Int)))) o = .bool (decide ((i : Int) < (N : Int))) := by simp [jw]
 by_cases q : i < N
 ·have x : decide ((i : Int) < (N : Int)) = true := by simp; omega
  rw [x] at s ⊢
  refine qk s (iv (gI (gO ?_)))
  refine tr (round i E W q d) (fun e E' W' h => ?_)
  cases e with
  | normal =>
   obtain ⟨h1, J⟩ := h
   refine gI ?_
   have hw : IntKind.i64.wrap ((i : Int) + 1) = ((i + 1 : Nat) : Int) := BK q L
   refine gJ (xK (v := .int .i64 ((i + 1 : Nat) : Int)) (.inl rfl) rfl O (jm (k := .i64) (a := (i : Int)) (b := 1) h1 rfl (by simp only [yA, hw])) ?_)
   refine xK (v := .int .i64 ((i + 1 : Nat) : Int)) (.inl rfl) rfl y (gF (by simp [gz, jw])) (gT ?_)
   exact gI ⟨N - (i + 1), by omega, i + 1, by omega, rfl, J⟩
  | exit j => exact h
  | goto l => exact h
  | ret => exact h
  | panic c => exact h
  | outgrown => exact h
 ·have x : decide ((i : Int) < (N : Int)) = false := by simp; omega
  rw [x] at s ⊢
  obtain rfl : i = N := by omega
  refine ml s (ot (ns (ns (sb ?_))))
  exact done E W d
theorem BZ {P : Program} {n : Nat} {x : Code} {Q : jW} {K : (Nat → Value) → World → Prop} {E : Nat → Value} {W : World} (J : (Nat → Value) → World → Prop) (h : CW P n x (kP J Q) E W) (k : ∀ E W, J E W → K E W) : CW P n x (kP K Q) E W :=
 tr h (fun e E W h => by cases e <;> first | exact k E W h | exact h)
theorem Ej {α : Type} {c : Bool} {x y r : α} (a : c = true) (h : (if c = true then x else y) = r) : x = r := by rw [ak a] at h; exact h
theorem Em {α : Type} {c : Bool} {x y r : α} (a : c = false) (h : (if c = true then x else y) = r) : y = r := by rw [ai (by rw [a]; decide)] at h; exact h
theorem bind_some {α β : Type} {o : Option α} {f : α → Option β} {r : β} (h : o.bind f = some r) : ∃ y, o = some y ∧ f y = some r := by
 cases o with
 | none => cases h
 | some y => exact ⟨y, rfl, h⟩
theorem Br (b : Bool) : b = true ∨ b = false := by cases b <;> simp
theorem iB {α : Type} {l : List α} {i : Nat} (h : i < l.length) : ∃ x xs, l.drop i = x :: xs ∧ l[i]? = some x ∧ l.drop (i + 1) = xs := by
 cases a : l.drop i with
 | nil => have := ap List.length a; simp at this; omega
 | cons x xs => exact ⟨x, xs, rfl, by rw [← List.head?_drop, a]; rfl, by rw [← List.drop_drop, a]; rfl⟩
theorem qC {P : Program} {W : World} (d : Nat) (xs ys : Array Value) : (Op.eqFields d xs ys []).run P W = .ok true W := by simp [Op.eqFields]
theorem jr {P : Program} {W : World} {d : Nat} {xs ys : Array Value} {f : Field} {fs : List Field} {a b : Value} {r s : Bool} (i : f.name ≠ "_") (c : (part f.type xs f.offset).run P W = .ok a W) (g : (part f.type ys f.offset).run P W = .ok b W) (he : (Op.equalIn d f.type a b).run P W = .ok r W) (h : (Op.eqFields d xs ys fs).run P W = .ok s W) : (Op.eqFields d xs ys (f :: fs)).run P W = .ok (r && s) W := by
 simp only [Op.eqFields, ne_eq, i, not_false_eq_true, aY, aQ, c, g, he, aH]
 cases r <;> simp [h]
theorem nk {P : Program} {W : World} {t : TypeId} {k : Nat} {cs : Array Value} {off : Nat} {v : Array Value} (a : ∀ w, (isAgg t).run P w = .ok true w) (b : ∀ w, (sizeOf t).run P w = .ok k w) (c : cs.extract off (off + k) = v) : (part t cs off).run P W = .ok (.agg v) W := by
 simp [part, a W, b W, c]
theorem js {P : Program} {W : World} {t : TypeId} {cs : Array Value} {off : Nat} {v : Value} (a : ∀ w, (isAgg t).run P w = .ok false w) (b : cs[off]? = some v) : (part t cs off).run P W = .ok v W := by
 simp [part, a W, b]
def gX (a b : ByteArray) : Bool := a.toList == b.toList
theorem Cl {P : Program} {t : TypeId} (c : P.underlying t = some .string) (d : Nat) (a b : ByteArray) (W : World) : (Op.equalIn (d + 1) t (.string a) (.string b)).run P W = .ok (gX a b) W := run_equalIn_string W d t a b c
theorem Ds {P : Program} {t : TypeId} {k : IntKind} (c : P.underlying t = some (.int k)) (d : Nat) (a b : Int) (W : World) : (Op.equalIn (d + 1) t (.int k a) (.int k b)).run P W = .ok (a == b) W := run_equalIn_int W d t k k a b c
theorem ms {P : Program} {op : BinOp} {t : TypeId} {x y : Operand} {a b : Array Value} (c : P.eqGuardType P.depth t = false) (W : World) : (eqGuard op t x y (.agg a) (.agg b)).run P W = .ok () W := by
 cases op <;> simp [eqGuard] <;> (intro h; rw [c] at h; cases h)
theorem oV {P : Program} {t : TypeId} {a b : Array Value} {r : Bool} (h : ∀ W, (Op.equalIn Op.maxDepth t (.agg a) (.agg b)).run P W = .ok r W) (W : World) : (binOp .eql t (.agg a) (.agg b)).run P W = .ok (.bool r) W := by
 simp [binOp, Op.equal, h W]
theorem DS {P : Program} {t : TypeId} {a b : Array Value} {r : Bool} (h : ∀ W, (Op.equalIn Op.maxDepth t (.agg a) (.agg b)).run P W = .ok r W) (W : World) : (binOp .neq t (.agg a) (.agg b)).run P W = .ok (.bool !r) W := by
 simp [binOp, Op.equal, h W]
end Go.Proofs.YtbnbdigcbldfhaaGreat
namespace Go.Proofs.YtbnbdigcbldfhaaGreat
open Go.RowKit
variable [M : Md]
variable {dd : Bool}
def iV (k : IntKind) (x : Int) : List Value := [.int k x]
def iQ (x : ByteArray) : List Value := [.string x]
theorem vi (k : IntKind) (x : Int) : ∀ u ∈ iV k x, u.oneCell' = true := by intro u hu; simp [iV] at hu; subst hu; rfl
theorem uP (x : ByteArray) : ∀ u ∈ iQ x, u.oneCell' = true := by intro u hu; simp [iQ] at hu; subst hu; rfl
def zS : ByteArray := ⟨#[]⟩
def kw (a b : ByteArray) : Bool := Op.bytesLess a.toList b.toList
@[irreducible] def jg : Nat := 18446744073709551616
theorem oW : jg = 18446744073709551616 := by unfold jg; rfl
def kd {α : Type} (l : List α) (i : Int) : Option α := if 0 ≤ i then l[i.toNat]? else none
theorem jk {α : Type} {l : List α} {i : Int} {x : α} (h : kd l i = some x) : 0 ≤ i := by
 unfold kd at h; split at h
 ·assumption
 ·cases h
theorem iF {α : Type} {l : List α} {i : Int} {x : α} (h : kd l i = some x) : l[i.toNat]? = some x := by
 unfold kd at h; split at h
 ·exact h
 ·cases h
theorem xx {α : Type} (l : List α) (i : Nat) : kd l (i : Int) = l[i]? := by simp [kd]
def rE (s : ByteArray) (i : Int) : Option UInt8 := if 0 ≤ i then s[i.toNat]? else none
theorem qZ {s : ByteArray} {i : Int} {x : UInt8} (h : rE s i = some x) : 0 ≤ i := by
 unfold rE at h; split at h
 ·assumption
 ·cases h
theorem tO {s : ByteArray} {i : Int} {x : UInt8} (h : rE s i = some x) : s[i.toNat]? = some x := by
 unfold rE at h; split at h
 ·exact h
 ·cases h
section
variable {F : Nat → Prop} {w W : World} {μ : gS} {L L' : List (Nat × Obj)} {α : Type} {e : TypeId} {enc : α → List Value} {k : Nat} {v : Value} {l : List α} {R : List (Nat × Obj)}
theorem ST.at_ (h : ST dd F w W μ L) {b : Nat} {o : Obj} (a : (b, o) ∈ L) : hp W b = some o := (h.box b o a).1
theorem gM.Fu (h : gM e enc k v l R) (hk : ∀ x, (enc x).length = k) (a : ST dd F w W μ L) (b : ∀ p, p ∈ R → p ∈ L) : Sl (Pl enc) k (hp W) v l :=
 h.sl hk (fun _ _ c => a.at_ (b _ c))
theorem gM.form (h : gM e enc k v l R) : ∃ A c, v = .slice A l.length c := by
 rcases h with ⟨rfl, rfl, rfl⟩ | ⟨g, cap, a, rfl, rfl, h1, b, d, i⟩
 ·exact ⟨_, _, rfl⟩
 ·exact ⟨_, _, rfl⟩
theorem Sl.form {R : nM α} (h : Sl R k μ v l) : ∃ A c, v = .slice A l.length c := let ⟨A, c, h, _⟩ := h; ⟨A, c, h⟩
theorem gM.B0 (h : gM e enc k v l R) (c : ST dd ia w W μ L) (i : ∀ p, p ∈ R → p ∈ L) : Fr w.heap.size v := by
 rcases h with ⟨rfl, rfl, rfl⟩ | ⟨g, cap, a, rfl, rfl, h1, j, m, n⟩
 ·exact Fr.nil _
 ·intro b d
  simp [Value.ownBlock] at d
  subst d
  rcases (c.box g (.cells a e (0, 0)) (i _ (aA.2 rfl))).2.2 with h | h
  ·exact h
  ·exact h.elim
theorem Sl.lit {b m : Nat} {cs : Array Value} (hk : ∀ x, (enc x).length = k) (hm : l.length = m) (c : m ≤ maxLen) (a : cs.toList = (l.map enc).flatten) (d : μ b = some (.cells cs e (0, 0))) : Sl (Pl enc) k μ (.slice (some ⟨b, 0, none⟩) m m) l :=
 (gM.lit (e := e) (b := b) hm c a (by have := ap List.length a; rw [lu hk, cd, hm] at this; exact this)).sl hk (fun g o h => by simp at h; obtain ⟨rfl, rfl⟩ := h; exact d)
theorem Fr.box (h : ST dd ia w W μ L) {b m c : Nat} {o : Obj} (d : (b, o) ∈ L) : Fr w.heap.size (.slice (some ⟨b, 0, none⟩) m c) := by
 intro g a
 simp [Value.ownBlock] at a
 subst a
 rcases (h.box b o d).2.2 with h | h
 ·exact h
 ·exact h.elim
theorem ST.perm (h : ST dd F w W μ L) (hp : L.Perm L') : ST dd F w W μ L' :=
 ⟨h.os, h.tape, h.output, h.drawn, h.size, h.iG, h.mem, fun b o a => h.box b o (hp.mem_iff.2 a), (hp.map _).nodup_iff.1 h.nd⟩
theorem ST.sublist (h : ST dd F w W μ L) (a : L'.Sublist L) : ST dd F w W μ L' :=
 ⟨h.os, h.tape, h.output, h.drawn, h.size, h.iG, h.mem, fun b o c => h.box b o (a.subset c), h.nd.sublist (a.map _)⟩
end
section
variable {E : Nat → Value} {x1 x2 x3 x4 x5 x6 : Operand} {v1 v2 v3 v4 v5 v6 : Value}
theorem tZ (h1 : gz E x1 = v1) : #[x1].map (gz E) ++ (#[] : Array Value) = [v1].toArray := by simp [h1]
theorem sM (h1 : gz E x1 = v1) (a : gz E x2 = v2) : #[x1, x2].map (gz E) ++ (#[] : Array Value) = [v1, v2].toArray := by simp [h1, a]
theorem Fc (h1 : gz E x1 = v1) (a : gz E x2 = v2) (b : gz E x3 = v3) : #[x1, x2, x3].map (gz E) ++ (#[] : Array Value) = [v1, v2, v3].toArray := by simp [h1, a, b]
end
theorem x9 : ∀ (v : List Value) (i off : Nat) (cells : Array Value), off + i + v.length ≤ cells.size →
  (v.zipIdx i).foldl (fun cs (c, j) => cs.setIfInBounds (off + j) c) cells = (cells.toList.take (off + i) ++ v ++ cells.toList.drop (off + i + v.length)).toArray
 | [], i, off, cells, h => by simp
 | c :: v, i, off, cells, h => by
  simp only [List.zipIdx_cons, cY]
  simp only [az] at h
  rw [x9 v (i + 1) off _ (by simp; omega)]
  have d : off + i < cells.toList.length := by simp; omega
  congr 1
  rw [Array.toList_setIfInBounds]
  apply cy
  intro j
  have g : (cells.toList.take (off + i)).length = off + i := by simp; omega
  by_cases h1 : j < off + i
  ·simp only [dA, an, bH, eF, cd, az, cH, da, bY]
   rw [show min (off + (i + 1)) cells.size = off + (i + 1) by omega, show min (off + i) cells.size = off + i by omega]
   rw [ak (by omega), ak (by omega), ak (by omega), ai (by omega), ak (by omega), ak (by omega), ak (by omega)]
  ·by_cases b : j = off + i
   ·subst b
    simp [dA, cH, da, show off + i < off + (i + 1) by omega]
    rw [ak (by omega), ak (by omega), ai (by omega), show off + i - min (off + i) cells.size = 0 by omega]
    rfl
   ·simp only [dA, an, bH, eF, cd, az, cH, da, bY]
    rw [show min (off + (i + 1)) cells.size = off + (i + 1) by omega, show min (off + i) cells.size = off + i by omega]
    by_cases a : j < off + (i + 1) + v.length
    ·rw [ak a, ai (by omega), ak (by omega), ai (by omega)]
     rw [show j - (off + i) = (j - (off + (i + 1))) + 1 by omega]
     simp
    ·rw [ai a, ai (by omega), ai (by omega)]
     congr 1
     omega
theorem ze {k : Nat} : ∀ (vs : List Value) (i : Nat) (pre rest : List Value), (∀ v ∈ vs, v.cells.size = k) → pre.length = i * k → rest.length = vs.length * k →
  Instr.fill (fun i => some (i * k, k)) (pre ++ rest).toArray ((vs.zipIdx i).map (fun p => (p.2, p.1))) = some (pre ++ vs.flatMap (fun v => v.cells.toList)).toArray
 | [], i, pre, rest, d, hp, b => by
  have : rest = [] := by cases rest <;> simp at b ⊢
  simp [Instr.fill, this]
 | v :: vs, i, pre, rest, d, hp, b => by
  have a := d v (by simp)
  have g : v.cells.zipIdx.foldl (fun cs (c, j) => cs.setIfInBounds (i * k + j) c) (pre ++ rest).toArray = (pre ++ v.cells.toList ++ rest.drop k).toArray := by
   have := x9 v.cells.toList 0 (i * k) (pre ++ rest).toArray (by simp [hp, b, a, aW])
   rw [← Array.toList_zipIdx, Array.foldl_toList] at this
   rw [this]
   congr 1
   simp [← hp, a]
  simp only [List.zipIdx_cons, aM, Instr.fill]
  rw [ai (by simp [a, hp, b, aW]), g]
  have := ze vs (i + 1) (pre ++ v.cells.toList) (rest.drop k) (fun u hu => d u (by simp [hu])) (by simp [hp, a, aW]) (by simp [b, aW])
  rw [this]
  simp
theorem CM {k m : Nat} {a cs : Array Value} {qs : Array (Nat × Value)} (vs : List Value) (c : qs.toList = vs.zipIdx.map (fun p => (p.2, p.1))) (g : ∀ v ∈ vs, v.cells.size = k) (hm : vs.length = m) (d : a.size = m * k) (b : (vs.flatMap (fun v => v.cells.toList)).toArray = cs) : Instr.fill (fun i => some (i * k, k)) a qs.toList = some cs := by
 subst hm b
 rw [c]
 have := ze vs 0 [] a.toList g (by simp) (by simpa using d)
 simpa using this
theorem vA {P : Program} {t e : TypeId} {m k : Nat} {z : Value} {qs : Array (Nat × Value)} {cs : Array Value} (vs : List Value) (g : P.underlying t = some (.slice e)) (d : ∀ w, (sizeOf e).run P w = .ok k w) (i : ∀ w, (zeroValue e).run P w = .ok z w) (hm : m * k ≤ 16777216) (c : qs.toList = vs.zipIdx.map (fun p => (p.2, p.1))) (h : ∀ v ∈ vs, v.cells.size = k) (b : vs.length = m) (a : (vs.flatMap (fun v => v.cells.toList)).toArray = cs) (W : World) :
  (Instr.buildSlice t m qs).run P W = .ok (.slice (some ⟨W.heap.size, 0, none⟩) m m) (W.alloc (.cells cs e (0, 0))) :=
 xt g d i hm (CM vs c h b (by simp) a) W
theorem w9 {E : Nat → Value}  : (#[] : Array (Nat × Operand)).map (fun (i, x) => (i, gz E x)) = #[] := by simp
theorem lk {E : Nat → Value} {x0 : Operand} {v0 : Value} {i0 : Nat} (a : gz E x0 = v0) : (#[(i0, x0)] : Array (Nat × Operand)).map (fun (i, x) => (i, gz E x)) = #[(i0, v0)] := by simp [a]
theorem nC {E : Nat → Value} {x0 x1 : Operand} {v0 v1 : Value} {i0 i1 : Nat} (a : gz E x0 = v0) (h1 : gz E x1 = v1) : (#[(i0, x0), (i1, x1)] : Array (Nat × Operand)).map (fun (i, x) => (i, gz E x)) = #[(i0, v0), (i1, v1)] := by simp [a, h1]
theorem zL {E : Nat → Value} {x0 x1 x2 : Operand} {v0 v1 v2 : Value} {i0 i1 i2 : Nat} (a : gz E x0 = v0) (h1 : gz E x1 = v1) (b : gz E x2 = v2) : (#[(i0, x0), (i1, x1), (i2, x2)] : Array (Nat × Operand)).map (fun (i, x) => (i, gz E x)) = #[(i0, v0), (i1, v1), (i2, v2)] := by simp [a, h1, b]
theorem yP {E : Nat → Value} {x0 x1 x2 x3 : Operand} {v0 v1 v2 v3 : Value} {i0 i1 i2 i3 : Nat} (a : gz E x0 = v0) (h1 : gz E x1 = v1) (b : gz E x2 = v2) (c : gz E x3 = v3) : (#[(i0, x0), (i1, x1), (i2, x2), (i3, x3)] : Array (Nat × Operand)).map (fun (i, x) => (i, gz E x)) = #[(i0, v0), (i1, v1), (i2, v2), (i3, v3)] := by simp [a, h1, b, c]
theorem jc {P : Program} {t : TypeId} {f off : Nat} {fs : Array Field} {fd : Field} (g : P.underlying t = some (.struct fs)) (a : fs[f]? = some fd) {k : Nat} (d : ∀ w, (sizeOf fd.type).run P w = .ok k w) (hk : k ≠ 0) (c : fd.offset = off) : jx P t f off := by
 intro b o w
 subst c
 simp [Instr.fieldAt, al g, a, Instr.sureAddr, fieldPlace, bW, d w, hk]
theorem Ag.wY {n : Nat} {a : Act} {E : Nat → Value} (h : Ag n a E) {ops : Array Oper} {j t : Nat} (c : (ops[j]?).bind (·.dst) = some t) (g : t < n) (i : E t = undef) : yielded ops a.tmps j = none := by
 have b := h.2.2 t
 have d : a.tmps[t]? = some (E t) := by
  rw [← b]
  simp [cx, h.1, g]
 simp [yielded, c, d, i, undef]
theorem En {P : Program} {n : Nat} {Q : jW} {E : Nat → Value} {W : World} {ops : Array Oper} {rest : List Oper} {o : Oper} {d j t : Nat} {want : Bool} (g : o.dst = some d) (l : d < n) (i : o.guard = some (j, want)) (k : (ops[j]?).bind (·.dst) = some t) (m : t < n) (c : E t = undef) (h : LW P n ops Q rest (jw E d undef) W) : LW P n ops Q (o :: rest) E W := fun a b => by
 unfold wpListIn
 have p := b.wY k m c
 rw [ai (by simp [Region.wanted, i, p])]
 rw [g]
 exact ⟨fun _ _ => trivial, h _ (b.put l _)⟩
theorem EZ {P : Program} {n : Nat} {Q : jW} {E : Nat → Value} {W : World} {ops : Array Oper} {rest : List Oper} {A : Value → Prop} {o : Oper} {dd : Nat} (hw : mu n ops E o) (b : o.dst = some dd) (c : dd < n) (d : ∃ p, A p ∧ ∀ W, iu P E o W p W) (h : ∀ p, A p → LW P n ops Q rest (jw E dd p) W) : LW P n ops Q (o :: rest) E W := by
 obtain ⟨p, h1, a⟩ := d
 exact xK hw b c (a W) (h p h1)
end Go.Proofs.YtbnbdigcbldfhaaGreat
namespace Go.Proofs.YtbnbdigcbldfhaaGreat
open Go.RowKit
variable [M : Md]
variable {dd : Bool}
theorem ou {P : Program} {n : Nat} {x : Code} {Q : jW} {E : Nat → Value} {W : World} (h : CW P n x (kP (fun E W => Q .normal E W) Q) E W) : CW P n x Q E W :=
 tr h (fun e E W h => by cases e <;> exact h)
section
variable {P : Program} {n : Nat} {Q : jW} {E : Nat → Value} {W : World} {d : Option Nat} {ty : TypeId} {pos : String} {af : Array Edge} {g : Option (Nat × Bool)}
 {F : Nat → Prop} {w : World} {μ : gS} {L : List (Nat × Obj)}
def Dy (k : IntKind) (op : BinOp) (a b : Int) : Option Value :=
 match op with
 | .quo => some (.int k (k.wrap (a.tdiv b)))
 | .rem => some (.int k (a.tmod b))
 | .and => some (.int k (k.wrap (BitVec.ofInt k.bits a &&& BitVec.ofInt k.bits b).toNat))
 | .or => some (.int k (k.wrap (BitVec.ofInt k.bits a ||| BitVec.ofInt k.bits b).toNat))
 | _ => none
theorem Bv {op : BinOp} {c m : TypeId} {x y : Operand} {k : IntKind} {a b : Int} {v : Value} (j : gz E x = .int k a) (l : gz E y = .int k b) (i : b ≠ 0) (h : Dy k op a b = some v) :
  iu P E ⟨d, .binOp op c x y m, ty, pos, af, g⟩ W v W := by
 show (do let r ← (do eqGuard op c x y (gz E x) (gz E y); binOp op c (gz E x) (gz E y)); pure (.value r) : Sem Next).run P W = _
 rw [j, l]
 cases op <;> simp [Dy] at h <;> subst h <;> simp [eqGuard, binOp, Op.intDiv, Op.intBits, i]
theorem Fk {c j : TypeId} {x y : Operand} {k k' : IntKind} {a b : Int} (h : gz E x = .int k a) (i : gz E y = .int k' b) (l : 0 ≤ b) :
  iu P E ⟨d, .binOp .shr c x y j, ty, pos, af, g⟩ W (.int k (a.fdiv (2 ^ min b.toNat k.bits))) W := by
 show (do let r ← (do eqGuard .shr c x y (gz E x) (gz E y); binOp .shr c (gz E x) (gz E y)); pure (.value r) : Sem Next).run P W = _
 rw [h, i]
 simp [eqGuard, binOp, Op.shift, show ¬ b < 0 by omega]
theorem sR {s t : TypeId} {x : Operand} {k k' : IntKind} {a : Int} {u : TypeDesc} (b : P.underlying s = some u) (c : P.underlying t = some (.int k)) (h : gz E x = .int k' a) :
  iu P E ⟨d, .convert s t x, ty, pos, af, g⟩ W (.int k (k.wrap a)) W := by
 show (do pure (.value (← convert s t (gz E x))) : Sem Next).run P W = _
 rw [h]
 simp [convert, al b, al c, Conv.intToInt]
theorem xD {t e : TypeId} (dd : Nat) (a : P.underlying t = some (.slice e)) (A : Option Addr) (l c : Nat) (W : World) : (Op.equalIn (dd + 1) t (.slice A l c) (.slice none 0 0)).run P W = .ok A.isNone W := by
 cases A <;> simp [Op.equalIn, al a]
theorem xS {a k e : TypeId} {x y : Operand} {A : Option Addr} {l c : Nat} (h : P.underlying a = some (.slice e)) (i : gz E x = .slice A l c) (j : gz E y = .slice none 0 0) :
  iu P E ⟨d, .binOp .eql a x y k, ty, pos, af, g⟩ W (.bool A.isNone) W := by
 show (do let r ← (do eqGuard .eql a x y (gz E x) (gz E y); binOp .eql a (gz E x) (gz E y)); pure (.value r) : Sem Next).run P W = _
 rw [i, j]
 have b := xD 9999 h A l c W
 simp [eqGuard, binOp, Op.equal, show Op.maxDepth = 9999 + 1 from rfl, b]
def mM (s : ByteArray) : List Int := s.data.toList.map (fun b => (b.toNat : Int))
def tD (s : ByteArray) : Option (List Int) := if s.size ≤ maxLen then some (mM s) else none
theorem kA (s : ByteArray) : (mM s).length = s.size := by simp only [mM, bG, cd]; rfl
theorem Bc {s : ByteArray} {cap i : Nat} {x : Int} (h : (mM s)[i]? = some x) : (bytesRow s cap)[i]? = some (.int .u8 x) := by
 have d : i < s.size := by have := (aw.1 h).1; rwa [kA] at this
 have a : i < s.data.size := d
 simp [mM] at h
 obtain ⟨b, c, rfl⟩ := h
 rw [bytesRow, Array.getElem?_append_left (by simpa using a)]
 simp [c]
theorem ya {K : Value → World → Prop} {s t e : TypeId} {x : Operand} {str : ByteArray} {l : List Int} (c : ST dd F w W μ L) (p : P.underlying s = some .string) (o : P.underlying t = some (.slice e)) (he : P.underlying e = some (.int .u8)) (m : gz E x = .string str) (a : tD str = some l) (h : ∀ W' v μ', ST dd F w W' μ' L → gZ μ μ' → Lo F w μ μ' → Sl (Pl (iV .u8)) 1 μ' v l → Fr w.heap.size v → K v W') : jh P E ⟨d, .convert s t x, ty, pos, af, g⟩ W K := by
 unfold tD at a
 split at a
 case isFalse => cases a
 rename_i hm
 cases a
 have k := run_bytes_of_string (P := P) W s t e str p o he
 have h1 := c.drew.alloc (.cells (bytesRow str (grownCap W str.size 0 e)) e ((bytesRow str (grownCap W str.size 0 e)).size, (bytesRow str (grownCap W str.size 0 e)).size + 1))
 refine .inl ⟨.slice (some ⟨W.heap.size, 0, none⟩) str.size (grownCap W str.size 0 e), _, ?_, h _ _ _ (ST.xz (A := []) h1) (ST.xy (A := []) h1) (ST.B3 (A := []) h1) ?_ ?_⟩
 ·show (do pure (.value (← convert s t (gz E x))) : Sem Next).run P W = _
  rw [m]
  simp only [aQ, k, aH, bq]
 ·refine ⟨_, grownCap W str.size 0 e, by rw [kA], by rw [kA]; exact grownCap_ge W str.size 0 e, grownCap_le_maxLen W str.size 0 e hm, fun _ => ⟨W.heap.size, 0, bytesRow str (grownCap W str.size 0 e), e, _, rfl, ak rfl, fun i x m => ⟨_, rfl, rfl, fun j y n => ?_⟩⟩⟩
  cases j with
  | zero => simp [iV] at n; subst n; simpa using Bc m
  | succ j => simp [iV] at n
 ·intro b a
  simp [Value.ownBlock] at a
  subst a
  exact c.size
def uC (l : List Int) : ByteArray := l.foldl (fun r n => r.push (UInt8.ofNat n.toNat)) ByteArray.empty
theorem Ap {s t e : TypeId} {x : Operand} {v : Value} {l : List Int} (y : P.underlying s = some (.slice e)) (he : P.underlying e = some (.int .u8)) (w : P.underlying t = some .string) (I : gz E x = v) (G : Sl (Pl (iV .u8)) 1 (hp W) v l) :
  iu P E ⟨d, .convert s t x, ty, pos, af, g⟩ W (.string (uC l)) W := by
 show (do pure (.value (← convert s t (gz E x))) : Sem Next).run P W = _
 obtain ⟨A, c, rfl, J, K, p⟩ := G
 rw [I]
 simp only [aQ, run_convert_bytes_string W s t e A l.length c y he w]
 rcases cu l.length with h | h
 ·have : l = [] := bu.1 h
  subst this
  cases A with
  | none => simp [Conv.bytesToString, uC]
  | some a =>
   have q := run_bytesToString (P := P) W a 0 c [] (by simpa using eT (P := P) W a [] (by simp))
   simp only [bx]
   rw [q]
   simp [uC]
 ·obtain ⟨b, off, cs, T, fr, rfl, r, u⟩ := p h
  have o := eT (P := P) W ⟨b, off, none⟩ (l.map (Value.int .u8)) (fun j v n => by
   simp at n
   obtain ⟨x, k, rfl⟩ := n
   obtain ⟨ys, _, m, i⟩ := u j x k
   cases m
   rw [bW, dW W b (off + j) cs T fr r]
   have := i 0 (.int .u8 x) rfl
   simpa using this)
  simp only [bG] at o
  rw [run_bytesToString W _ l.length c l o]
  simp [uC]
end
end Go.Proofs.YtbnbdigcbldfhaaGreat
namespace Go.Proofs.YtbnbdigcbldfhaaGreat
open Go.RowKit
variable {dd : Bool}
def keys (L : List (Nat × Obj)) : Nat → Prop := fun b => ∃ o, (b, o) ∈ L
structure F5 (dd : Bool) (F : Nat → Prop) (w W : World) : Prop where
 os : W.os = w.os
 tape : W.tape = w.tape
 output : W.output = w.output
 drawn : ng dd w.drawn W.drawn
 size : w.heap.size ≤ W.heap.size
 iG : ∀ b, b < w.heap.size → ¬ F b → W.heap[b]? = w.heap[b]?
def sW (L : List (Nat × Obj)) (W : World) : Prop := ∀ b o, (b, o) ∈ L → W.heap[b]? = some o
structure mL (dd : Bool) (L0 L1 : List (Nat × Obj)) (w w' : World) : Prop where
 ex : F5 dd (keys L0) w w'
 held : ∀ b o, (b, o) ∈ L1 → w'.heap[b]? = some o ∧ (w.heap.size ≤ b ∨ keys L0 b)
 nd : (L1.map (·.1)).Nodup
open Classical in
noncomputable def mG (w : World) (L : List (Nat × Obj)) : gS := fun b => if keys L b then none else w.heap[b]?
open Classical in
noncomputable def sx (μ : gS) (W W' : World) (L1 : List (Nat × Obj)) : gS := fun b => if b < W.heap.size then μ b else if keys L1 b then none else W'.heap[b]?
section
variable {F : Nat → Prop} {w W W' : World} {μ μ' : gS} {L L0 L1 : List (Nat × Obj)}
theorem ST.BY (a : sW L0 w) (c : (L0.map (·.1)).Nodup) : ST dd (keys L0) w w (mG w L0) L0 :=
 ⟨rfl, rfl, rfl, ng.of (aJ _), aJ _, fun _ _ _ => rfl, fun b o h => by
  unfold mG at h; split at h
  ·cases h
  ·exact h, fun b o h => ⟨a b o h, by unfold mG; rw [ak ⟨o, h⟩], .inr ⟨o, h⟩⟩, c⟩
theorem vt {A B : List (Nat × Obj)} (h : ((A ++ B).map (·.1)).Nodup) {b : Nat} {o : Obj} (a : (b, o) ∈ B) : ¬ keys A b := by
 rintro ⟨o', c⟩
 rw [aO] at h
 exact (aD.1 h).2.2 b (aK.2 ⟨_, c, rfl⟩) b (aK.2 ⟨_, a, rfl⟩) rfl
theorem ST.back (h : ST dd F w W μ (L0 ++ L)) (j : mL dd L0 L1 W W') : ST dd F w W' (sx μ W W' L1) (L1 ++ L) := by
 have hk : ∀ b, keys L0 b → b < W.heap.size ∧ μ b = none ∧ (w.heap.size ≤ b ∨ F b) := fun b ⟨o, d⟩ => by
  obtain ⟨h1, g, m⟩ := h.box b o (aR _ d)
  exact ⟨jI h1, g, m⟩
 refine ⟨j.ex.os.trans h.os, j.ex.tape.trans h.tape, j.ex.output.trans h.output, ng.trans h.drawn j.ex.drawn, aX h.size j.ex.size, fun b i n => ?_, fun b o d => ?_, fun b o d => ?_, ?_⟩
 ·rw [j.ex.iG b (ct i h.size) (fun k => by
   rcases (hk b k).2.2 with h | h
   ·omega
   ·exact n h)]
  exact h.iG b i n
 ·unfold sx at d
  split at d
  ·rename_i i
   rw [j.ex.iG b i (fun k => by rw [(hk b k).2.1] at d; cases d)]
   exact h.mem b o d
  ·split at d
   ·cases d
   ·exact d
 ·rcases aG.1 d with d | d
  ·obtain ⟨h1, g⟩ := j.held b o d
   refine ⟨h1, ?_, ?_⟩
   ·unfold sx
    split
    ·rename_i i
     rcases g with g | g
     ·omega
     ·exact (hk b g).2.1
    ·rw [ak ⟨o, d⟩]
   ·rcases g with g | g
    ·exact .inl (aX h.size g)
    ·exact (hk b g).2.2
  ·obtain ⟨h1, g, m⟩ := h.box b o (aZ _ d)
   refine ⟨?_, ?_, m⟩
   ·rw [j.ex.iG b (jI h1) (vt h.nd d)]; exact h1
   ·unfold sx; rw [ak (jI h1)]; exact g
 ·rw [aO]
  have q : (L.map (·.1)).Nodup := by have := h.nd; rw [aO] at this; exact (aD.1 this).2.1
  refine aD.2 ⟨j.nd, q, fun a r c s e => ?_⟩
  subst e
  obtain ⟨⟨b, o⟩, d, rfl⟩ := aK.1 r
  obtain ⟨⟨p, o'⟩, l, e⟩ := aK.1 s
  simp at e; subst e
  have i := h.wS (aZ _ l)
  rcases (j.held p o d).2 with g | g
  ·omega
  ·exact vt h.nd l g
theorem ST.wj (h : ST dd F w W μ L) (W' : World) (L1 : List (Nat × Obj)) : Lo F w μ (sx μ W W' L1) := fun b a _ => ak (ct a h.size)
theorem ST.uU (h : ST dd F w W μ L) (W' : World) (L1 : List (Nat × Obj)) : gZ μ (sx μ W W' L1) := fun b o a => by
 unfold sx; rw [ak (h.vm a)]; exact a
theorem ST.Av (h : ST dd F w W μ L) (c : ∀ p, p ∈ L0 → p ∈ L) : gZ μ (mG W L0) := fun b o a => by
 unfold mG
 rw [ai]
 ·exact h.mem b o a
 ·rintro ⟨o', d⟩
  rw [(h.box b o' (c _ d)).2.1] at a
  cases a
theorem mL.yD (h : Ex dd w W) (c : ∀ b o, (b, o) ∈ L1 → W.heap[b]? = some o ∧ w.heap.size ≤ b) (d : (L1.map (·.1)).Nodup) : mL dd [] L1 w W :=
 ⟨⟨h.os, h.tape, h.output, h.drawn, h.size, fun b a _ => h.iG b a⟩, fun b o a => ⟨(c b o a).1, .inl (c b o a).2⟩, d⟩
end
def ie (dd : Bool) (P : Program) (f : FuncId) (args : List Value) (w : World) (L0 : List (Nat × Obj)) (K : Value → List (Nat × Obj) → World → Prop) : Prop :=
 Calls P f args.toArray w fun e a => ∃ v L1, e = .returned v ∧ mL dd L0 L1 w a ∧ K v L1 a
def iS (dd : Bool) {α : Type} (P : Program) (f : FuncId) (args : List Value) (w : World) (e : TypeId) (enc : α → List Value) (k : Nat) (l : List α) : Prop :=
 ie dd P f args w [] fun v R _ => gM e enc k v l R
theorem mL.ki {L0 L1 : List (Nat × Obj)} {w a : World} (h : mL true L0 L1 w a) : mL dd L0 L1 w a := ⟨⟨h.ex.os, h.ex.tape, h.ex.output, ng.of (h.ex.drawn rfl), h.ex.size, h.ex.iG⟩, h.held, h.nd⟩
theorem iA.ki {P : Program} {f : FuncId} {args : List Value} {w : World} {v : Value} (h : iA true P f args w v) : iA dd P f args w v := bf h fun _ _ h => ⟨h.1, h.2.ki⟩
theorem ie.ki {P : Program} {f : FuncId} {args : List Value} {w : World} {L0 : List (Nat × Obj)} {K : Value → List (Nat × Obj) → World → Prop} (h : ie true P f args w L0 K) : ie dd P f args w L0 K := bf h fun _ _ ⟨v, L1, h1, a, b⟩ => ⟨v, L1, h1, a.ki, b⟩
theorem iS.ki {α : Type} {P : Program} {f : FuncId} {args : List Value} {w : World} {e : TypeId} {enc : α → List Value} {k : Nat} {l : List α} (h : iS true P f args w e enc k l) : iS dd P f args w e enc k l := ie.ki h
section
variable {P : Program} {E : Nat → Value} {W : World} {d : Option Nat} {ty : TypeId} {pos : String} {af : Array Edge} {g : Option (Nat × Bool)}
 {F : Nat → Prop} {w : World} {μ : gS} {L : List (Nat × Obj)}
theorem CA {K : Value → World → Prop} {K' : Value → List (Nat × Obj) → World → Prop} {f : FuncId} {fv : Operand} {ax : Array Operand} {ats : Array TypeId} {caps : Array Value} {args : List Value} (L0 L2 : List (Nat × Obj)) (a : ST dd F w W μ L) (b : L.Perm (L0 ++ L2)) (l : gz E fv = .func (.func f) #[] caps) (he : ∀ args w, (callFunc f args).run P w = .ok (.enter f args) w) (j : ax.map (gz E) ++ caps = args.toArray) (k : ie dd P f args W L0 K') (h : ∀ W' v μ' L1, ST dd F w W' μ' (L1 ++ L2) → gZ μ μ' → Lo F w μ μ' → K' v L1 W' → K v W') : jh P E ⟨d, .call ⟨.value fv, ax, ats⟩, ty, pos, af, g⟩ W K :=
 vp l he j (bf k (fun _ W' ⟨v, L1, h1, c, i⟩ => ⟨v, h1, h W' v _ L1 ((a.perm b).back c) ((a.perm b).uU W' L1) ((a.perm b).wj W' L1) i⟩))
theorem Be {K : Value → World → Prop} {α : Type} {e : TypeId} {enc : α → List Value} {k : Nat} {l : List α} {f : FuncId} {fv : Operand} {ax : Array Operand} {ats : Array TypeId} {caps : Array Value} {args : List Value} (X Y : List (Nat × Obj)) (a : ST dd F w W μ (X ++ Y)) (n : gz E fv = .func (.func f) #[] caps) (he : ∀ args w, (callFunc f args).run P w = .ok (.enter f args) w) (j : ax.map (gz E) ++ caps = args.toArray) (m : iS dd P f args W e enc k l) (h : ∀ W' v μ' R, ST dd F w W' μ' (X ++ (R ++ Y)) → gZ μ μ' → Lo F w μ μ' → gM e enc k v l R → K v W') : jh P E ⟨d, .call ⟨.value fv, ax, ats⟩, ty, pos, af, g⟩ W K :=
 CA [] (X ++ Y) a (.refl _) n he j m (fun W' v μ' L1 h1 b i c => h W' v μ' L1 (h1.perm (by rw [← ar, ← ar]; exact List.perm_append_comm.append_right Y)) b i c)
end
theorem ST.kp {w W : World} {μ : gS} {L R : List (Nat × Obj)} (h : ST dd ia w W μ L) (a : ∀ p, p ∈ R → p ∈ L) (d : (R.map (·.1)).Nodup) : mL dd [] R w W :=
 mL.yD h.ex (fun b o c => ⟨(h.box b o (a _ c)).1, by
  rcases (h.box b o (a _ c)).2.2 with h | h
  ·exact h
  ·exact h.elim⟩) d
theorem jf {P : Program} {E : Nat → Value} {W : World} {d : Option Nat} {ty : TypeId} {pos : String} {af : Array Edge} {g : Option (Nat × Bool)} {α : Type} {e' : TypeId} {enc : α → List Value} {k : Nat} {v : Value} {l : List α} {R : List (Nat × Obj)} {x : Operand} {t e : TypeId} (a : P.underlying t = some (.slice e)) (b : gz E x = v) (h : gM e' enc k v l R) : iu P E ⟨d, .call ⟨.builtin .len, #[x], #[t]⟩, ty, pos, af, g⟩ W (.int .i64 l.length) W := by
 obtain ⟨A, c, rfl⟩ := h.form
 exact vx a b
section
variable {α : Type} {e : TypeId} {enc : α → List Value} {k : Nat} {v : Value} {l : List α} {R : List (Nat × Obj)}
theorem gM.nd (h : gM e enc k v l R) : (R.map (·.1)).Nodup := by
 rcases h with ⟨rfl, rfl, rfl⟩ | ⟨g, cap, a, rfl, rfl, _⟩ <;> simp
end
end Go.Proofs.YtbnbdigcbldfhaaGreat
namespace Go.Proofs.YtbnbdigcbldfhaaGreat
open Go.RowKit
variable {dd : Bool}
def um (R : List (Nat × Obj)) (k : Nat) (p : Value) (i : Nat) : Prop := ∃ g o, R = [(g, o)] ∧ p = .pointer (some ⟨g, i * k, none⟩)
section
variable {P : Program} {E : Nat → Value} {W : World} {d : Option Nat} {ty : TypeId} {pos : String} {af : Array Edge} {g : Option (Nat × Bool)}
 {F : Nat → Prop} {w : World} {μ : gS} {L : List (Nat × Obj)} {α : Type} {e' : TypeId} {enc : α → List Value} {k : Nat} {v : Value} {l : List α} {R : List (Nat × Obj)}
theorem iW {t e : TypeId} {x b : Operand} {s : IntKind} {i : Int} {x0 : α} (q : P.underlying t = some (.slice e)) (he : ∀ w, (sizeOf e).run P w = .ok k w) (r : gz E x = v) (n : gz E b = .int s i) (h : gM e' enc k v l R) (j : 0 ≤ i) (o : l[i.toNat]? = some x0) :
  ∃ p, um R k p i.toNat ∧ ∀ W, iu P E ⟨d, .indexAddr t x b, ty, pos, af, g⟩ W p W := by
 have a : i.toNat < l.length := (aw.1 o).1
 rcases h with ⟨rfl, rfl, rfl⟩ | ⟨g', cap, c, rfl, rfl, h1, u, y, A⟩
 ·simp at a
 refine ⟨.pointer (some ⟨g', i.toNat * k, none⟩), ⟨_, _, rfl, rfl⟩, fun W => ?_⟩
 show (do pure (.value (← Instr.indexAt t (gz E x) (gz E b))) : Sem Next).run P W = _
 rw [r, n]
 have m : 0 ≤ i ∧ i < (l.length : Int) := ⟨j, by omega⟩
 simp [Instr.indexAt, asIntOf, al q, he W, m, bW]
theorem rX (h : gM e' enc k v l R) (hk : ∀ x, (enc x).length = k) {p : Value} {i : Nat} (hp : um R k p i) {x0 : α} (m : l[i]? = some x0) :
  ∃ g a cap, R = [(g, .cells a e' (0, 0))] ∧ v = .slice (some ⟨g, 0, none⟩) l.length cap ∧ l.length ≤ cap ∧ cap ≤ maxLen ∧ a.size = cap * k ∧ a.toList.take (l.length * k) = (l.map enc).flatten ∧ p = .pointer (some ⟨g, i * k, none⟩) ∧ ∀ j y, (enc x0)[j]? = some y → a[i * k + j]? = some y := by
 have c : i < l.length := (aw.1 m).1
 rcases h with ⟨rfl, rfl, rfl⟩ | ⟨g', cap, a, rfl, rfl, h1, q, r, d⟩
 ·simp at c
 obtain ⟨g2, o, n, rfl⟩ := hp
 cases n
 refine ⟨g', a, cap, rfl, rfl, h1, q, r, d, rfl, fun j y s => ?_⟩
 have := pZ hk l i x0 m j y s
 rw [← d] at this
 have b : i * k + j < l.length * k := by
  have := (aw.1 this).1
  simp at this; omega
 rw [ck b] at this
 simpa using this
theorem kH {A : List (Nat × Obj)} (hH : my μ A W) (c : ∀ q, q ∈ R → q ∈ A) (h : gM e' enc k v l R) (hk : ∀ x, (enc x).length = k) {p : Value} {i : Nat} (hp : um R k p i) {x0 : α} (j : l[i]? = some x0) {t : TypeId} (d : ∀ w, (isAgg t).run P w = .ok true w) (g : ∀ w, (sizeOf t).run P w = .ok k w) : (Instr.loadAt t p).run P W = .ok (.agg (enc x0).toArray) W := by
 obtain ⟨g', a, cap, rfl, rfl, _, _, _, _, rfl, b⟩ := rX h hk hp j
 exact s7 d (enc x0) (by rw [hk]; exact g) (hH.2 _ _ (c _ (aA.2 rfl))) b
theorem oD {A : List (Nat × Obj)} (hH : my μ A W) (c : ∀ q, q ∈ R → q ∈ A) (h : gM e' enc k v l R) (hk : ∀ x, (enc x).length = k) {p : Value} {i : Nat} (hp : um R k p i) {x0 : α} (g : l[i]? = some x0) {t : TypeId} {y : Value} (j : enc x0 = [y]) (d : ∀ w, (isAgg t).run P w = .ok false w) : (Instr.loadAt t p).run P W = .ok y W := by
 obtain ⟨g', a, cap, rfl, rfl, _, _, _, _, rfl, b⟩ := rX h hk hp g
 exact ta d (hH.2 _ _ (c _ (aA.2 rfl))) (b 0 y (by rw [j]; rfl))
theorem vW (hk : ∀ x, (enc x).length = k) : ∀ (l : List α) (i : Nat) (y : α), i < l.length → ((l.set i y).map enc).flatten = (l.map enc).flatten.take (i * k) ++ enc y ++ (l.map enc).flatten.drop (i * k + k)
 | [], i, y, h => by simp at h
 | z :: l, 0, y, h => by
  simp [hk]
 | z :: l, i + 1, y, h => by
  have := vW hk l i y (by simpa using h)
  simp only [List.set_cons_succ, aM, bB, this]
  have h1 : (i + 1) * k = (enc z).length + i * k := by rw [hk, aW]; omega
  rw [h1, eK, dh, List.drop_length_add_append]
  simp
theorem Bn {K : Value → World → Prop} (X : List (Nat × Obj)) {Y : List (Nat × Obj)} {t : TypeId} {x y : Operand} {p u : Value} {i : Nat} {x0 x1 : α} (c : ST dd F w W μ (X ++ (R ++ Y))) (h : gM e' enc k v l R) (hk : ∀ x, (enc x).length = k) (h1 : ∀ x, ∀ u ∈ enc x, u.oneCell' = true) (Q : gz E x = p) (T : gz E y = u) (hu : u.cells = (enc x1).toArray) (hp : um R k p i) (s : l[i]? = some x0) (M : ∀ w, (sizeOf t).run P w = .ok k w) (L : ∀ W' R', ST dd F w W' μ (X ++ (R' ++ Y)) → gM e' enc k v (l.set i x1) R' → K undef W') : jh P E ⟨d, .store t x y, ty, pos, af, g⟩ W K := by
 have o : i < l.length := (aw.1 s).1
 obtain ⟨g', a, cap, rfl, rfl, r, I, n, J, rfl, U⟩ := rX h hk hp s
 have hle : i * k + k ≤ cap * k := by
  have : (i + 1) * k ≤ cap * k := aS _ (by omega)
  rwa [aW, fx] at this
 have j : i * k + k ≤ l.length * k := by
  have : (i + 1) * k ≤ l.length * k := aS _ (by omega)
  rwa [aW, fx] at this
 have b : u.cells.size = k := by rw [hu]; simp [hk]
 have O := (c.box g' (.cells a e' (0, 0)) (by simp)).1
 have hlen : l.length * k ≤ cap * k := aS _ r
 refine .inr (.inl ⟨W.setRow g' (a.toList.take (i * k) ++ (enc x1) ++ a.toList.drop (i * k + k)).toArray, ?_, L _ [(g', .cells (a.toList.take (i * k) ++ (enc x1) ++ a.toList.drop (i * k + k)).toArray e' (0, 0))] (c.store _) (.inr ⟨g', cap, _, by simp, rfl, by simpa using r, I, ?_, ?_⟩)⟩)
 ·show (do Instr.storeAt t (gz E x) (gz E y); pure .skip : Sem Next).run P W = _
  rw [Q, T]
  have := th P (off := i * k) u (by rw [b]; exact M) (by rw [hu]; simpa using h1 x1) O (by rw [b, n]; exact hle)
  simp only [aQ, this, aH, bq, b]
  rw [hu]
 ·show ((a.toList.take (i * k) ++ (enc x1) ++ a.toList.drop (i * k + k)).toArray).size = _
  have m : a.toList.length = cap * k := by simpa using n
  rw [cg, an, an, bH, er, hk, m, bP (by omega)]; omega
 ·rw [eF, vW hk l i x1 o, ← J]
  have A : (a.toList.take (l.length * k)).take (i * k) = a.toList.take (i * k) := by rw [eb]; congr 1; omega
  have G : (a.toList.take (l.length * k)).drop (i * k + k) = (a.toList.drop (i * k + k)).take (l.length * k - (i * k + k)) := by rw [eU]
  rw [A, G]
  show List.take (l.length * k) (a.toList.take (i * k) ++ enc x1 ++ a.toList.drop (i * k + k)) = _
  have m : a.toList.length = cap * k := by simpa using n
  have q : (a.toList.take (i * k) ++ enc x1).length = i * k + k := by rw [an, bH, hk, m, bP (by omega)]
  rw [dq, bM (by rw [q]; exact j), q]
theorem u4 (hk : ∀ x, (enc x).length = k) : ∀ (l : List α) (i : Nat), i ≤ l.length → ((l.take i).map enc).flatten = (l.map enc).flatten.take (i * k)
 | [], i, h => by simp
 | z :: l, 0, h => by simp
 | z :: l, i + 1, h => by
  have := u4 hk l i (by simpa using h)
  simp only [List.take_succ_cons, aM, bB, this]
  rw [show (i + 1) * k = (enc z).length + i * k by rw [hk, aW]; omega, eK]
theorem uW {t e : TypeId} {x ih : Operand} {A : IntKind} {i : Int} (j : P.underlying t = some (.slice e)) (he : ∀ w, (sizeOf e).run P w = .ok k w) (m : gz E x = v) (c : gz E ih = .int A i) (h : gM e' enc k v l R) (hk : ∀ x, (enc x).length = k) (p : 0 ≤ i) (y : i ≤ l.length) :
  ∃ n, gM e' enc k n (l.take i.toNat) R ∧ ∀ W, iu P E ⟨d, .slice t x none (some ih) none, ty, pos, af, g⟩ W n W := by
 have a : i.toNat ≤ l.length := by omega
 rcases h with ⟨rfl, rfl, rfl⟩ | ⟨g', cap, b, rfl, rfl, h1, q, r, s⟩
 ·have : i = 0 := by simp at y; omega
  subst this
  refine ⟨.slice none 0 0, .inl ⟨rfl, by simp, rfl⟩, fun W => ?_⟩
  show (do pure (.value (← Instr.sliceAt t (gz E x) none (some (gz E ih)) none)) : Sem Next).run P W = _
  rw [m, c]
  simp [Instr.sliceAt, Instr.slice, Instr.sliceBounds, Instr.sliceBound, asIntOf, al j, he W]
 ·refine ⟨.slice (some ⟨g', 0, none⟩) (l.take i.toNat).length cap, .inr ⟨g', cap, b, rfl, rfl, by simp; omega, q, r, ?_⟩, fun W => ?_⟩
  ·have o : (l.take i.toNat).length = i.toNat := by rw [bH]; omega
   have hle : i.toNat * k ≤ l.length * k := aS _ a
   rw [o, u4 hk l i.toNat a, ← s, eb, bP hle]
  ·show (do pure (.value (← Instr.sliceAt t (gz E x) none (some (gz E ih)) none)) : Sem Next).run P W = _
   rw [m, c]
   have u : 0 ≤ i ∧ i ≤ (cap : Int) := ⟨p, by omega⟩
   simp [Instr.sliceAt, Instr.slice, Instr.sliceBounds, Instr.sliceBound, asIntOf, al j, he W, u, bW]
   omega
theorem tb {s : nM α} {t e : TypeId} {x p : Operand} {ik : IntKind} {i : Int} (Y : P.underlying t = some (.slice e)) (he : ∀ w, (sizeOf e).run P w = .ok k w) (n : gz E x = v) (O : gz E p = .int ik i) (h : Sl s k μ v l) (u : 0 ≤ i) (Q : i ≤ l.length) :
  ∃ r, (Sl s k μ r (l.drop i.toNat) ∧ ∀ B, Fr B v → Fr B r) ∧ ∀ W, iu P E ⟨d, .slice t x (some p) none none, ty, pos, af, g⟩ W r W := by
 obtain ⟨A, c, rfl, h2, h3, G⟩ := h
 have R : i.toNat ≤ l.length := by omega
 refine ⟨.slice (if c = i.toNat then A else A.map (·.add (i.toNat * k))) (l.drop i.toNat).length (c - i.toNat), ⟨⟨_, _, rfl, by simp; omega, by omega, fun hp => ?_⟩, fun B M b m => ?_⟩, fun W => ?_⟩
 ·have U : i.toNat < l.length := by simp at hp; omega
  obtain ⟨b, off, cs, T, fr, rfl, I, J⟩ := G (by omega)
  refine ⟨b, off + i.toNat * k, cs, T, fr, ?_, I, fun j x n => ?_⟩
  ·rw [ai (by omega)]; simp [bW]
  ·rw [bY] at n
   obtain ⟨ys, K, L, o⟩ := J _ x n
   refine ⟨ys, K, L, fun q y Z => ?_⟩
   have := o q y Z
   rw [aW] at this
   rw [show off + i.toNat * k + j * k + q = off + (i.toNat * k + j * k) + q by omega]
   exact this
 ·refine M b ?_
  cases A with
  | none => simp [Value.ownBlock] at m
  | some a =>
   split at m
   ·exact m
   ·obtain ⟨b', o', s'⟩ := a
    cases s' <;> simp [Value.ownBlock, Addr.add] at m ⊢ <;> split at m <;> exact m
 ·show (do pure (.value (← Instr.sliceAt t (gz E x) (some (gz E p)) none none)) : Sem Next).run P W = _
  rw [n, O]
  have m : 0 ≤ i ∧ i ≤ (l.length : Int) := ⟨u, Q⟩
  simp [Instr.sliceAt, Instr.slice, Instr.sliceBounds, Instr.sliceBound, asIntOf, al Y, he W, m]
end
end Go.Proofs.YtbnbdigcbldfhaaGreat
namespace Go.Proofs.YtbnbdigcbldfhaaGreat
open Go.RowKit
variable {dd : Bool}
section
variable {α : Type} {e : TypeId} {enc : α → List Value} {k : Nat} {v : Value} {l : List α} {R : List (Nat × Obj)} {μ : gS}
theorem gM.one (h : gM e enc k v l R) : v.oneCell' = true := by obtain ⟨A, c, rfl⟩ := h.form; rfl
theorem Sl.one {a : nM α} (h : Sl a k μ v l) : v.oneCell' = true := by obtain ⟨A, c, rfl⟩ := h.form; rfl
theorem Sl.isNil {d : nM α} {n c : Nat} (h : Sl d k μ (.slice none n c) l) : l = [] := by
 obtain ⟨A, j, h1, m, o, g⟩ := h
 cases h1
 rcases cu l.length with a | a
 ·exact bu.1 a
 ·obtain ⟨b, off, cs, T, fr, i, _⟩ := g a
  cases i
theorem gM.isNil {n c : Nat} (h : gM e enc k (.slice none n c) l R) : l = [] := by
 rcases h with ⟨h1, rfl, rfl⟩ | ⟨g, cap, a, h1, _⟩
 ·rfl
 ·cases h1
theorem ST.Fo {w W : World} {μ : gS} {L1 L2 : List (Nat × Obj)} (h : ST dd ia w W μ (L1 ++ L2)) : mL dd [] L1 w W :=
 mL.yD h.ex (fun b o a => ⟨(h.box b o (aR _ a)).1, by
  rcases (h.box b o (aR _ a)).2.2 with h | h
  ·exact h
  ·exact h.elim⟩) (by have := h.nd; rw [aO] at this; exact (aD.1 this).1)
theorem ST.yB {w W : World} {μ : gS} {L0 L1 L2 : List (Nat × Obj)} (h : ST dd (keys L0) w W μ (L1 ++ L2)) : mL dd L0 L1 w W :=
 ⟨⟨h.os, h.tape, h.output, h.drawn, h.size, h.iG⟩, fun b o a => ⟨(h.box b o (aR _ a)).1, (h.box b o (aR _ a)).2.2⟩, by have := h.nd; rw [aO] at this; exact (aD.1 this).1⟩
end
end Go.Proofs.YtbnbdigcbldfhaaGreat
namespace Go.Proofs.YtbnbdigcbldfhaaGreat
open Go.RowKit
variable {dd : Bool}
def gV {κ β : Type} (beq : κ → κ → Bool) (l : List (κ × β)) (k : κ) : Option β := (l.find? (fun p => beq k p.1)).map (·.2)
def iN {κ β : Type} (beq : κ → κ → Bool) (l : List (κ × β)) (k : κ) (v : β) : List (κ × β) :=
 match l.findIdx? (fun p => beq k p.1) with
 | some i => l.set i (k, v)
 | none => l ++ [(k, v)]
structure mo {κ β : Type} (kenc : κ → Value) (vf : β → Value) (l : List (κ × β)) (es : Array MapEntry) (clock : Nat) : Prop where
 qX : es.toList.map (fun e => (e.key, e.val)) = l.map (fun p => (kenc p.1, vf p.2))
 born : es.toList.Pairwise (fun a b => a.born < b.born)
 lt : ∀ e ∈ es.toList, e.born < clock
def gW {κ β : Type} (kenc : κ → Value) (vf : β → Value) (v : Value) (l : List (κ × β)) (R : List (Nat × Obj)) : Prop :=
 ∃ m es clock, v = .map (some m) ∧ R = [(m, .map es clock)] ∧ mo kenc vf l es clock
def kL {κ β : Type} (kenc : κ → Value) (vf : β → Value) (μ : gS) (v : Value) (l : List (κ × β)) : Prop :=
 (v = .map none ∧ l = []) ∨ ∃ m es clock, v = .map (some m) ∧ μ m = some (.map es clock) ∧ mo kenc vf l es clock
theorem kL.mono {κ β : Type} {kenc : κ → Value} {vf : β → Value} {μ μ' : gS} {v : Value} {l : List (κ × β)} (h : kL kenc vf μ v l) (c : gZ μ μ') : kL kenc vf μ' v l := by
 rcases h with h | ⟨m, es, clock, h1, a, b⟩
 ·exact .inl h
 ·exact .inr ⟨m, es, clock, h1, c _ _ a, b⟩
theorem gW.at {κ β : Type} {kenc : κ → Value} {vf : β → Value} {μ : gS} {v : Value} {l : List (κ × β)} {R : List (Nat × Obj)} (h : gW kenc vf v l R) (c : ∀ b o, (b, o) ∈ R → μ b = some o) : kL kenc vf μ v l := by
 obtain ⟨m, es, clock, rfl, rfl, a⟩ := h
 exact .inr ⟨m, es, clock, rfl, c _ _ (aA.2 rfl), a⟩
structure jC {κ : Type} (P : Program) (kt : TypeId) (kenc : κ → Value) (beq : κ → κ → Bool) : Prop where
 check : ∀ b k W, (Instr.checkKey b 10000 kt (kenc k)).run P W = .ok () W
 find : ∀ (k : κ) (l : List κ) (es : List MapEntry), es.map (·.key) = l.map kenc → ∀ W, (Instr.findKey kt (kenc k) es).run P W = .ok ((l.findIdx? (fun x => beq k x)).bind fun i => (es[i]?).map fun e => (i, e.val)) W
 eq : ∀ k x, beq k x = true → kenc x = kenc k
 bits : ∀ k, Instr.sameBits 10000 (kenc k) (kenc k) = true
section
variable {P : Program} {W : World} {κ : Type} {kt : TypeId} {kenc : κ → Value} {beq : κ → κ → Bool}
theorem tF (a : ∀ x y W, (Op.equal kt (kenc x) (kenc y)).run P W = .ok (beq x y) W) (k : κ) : ∀ (l : List κ) (es : List MapEntry) (i : Nat), es.map (·.key) = l.map kenc →
  (Instr.findAsking kt (kenc k) es i).run P W = .ok ((l.findIdx? (fun x => beq k x)).bind fun j => (es[j]?).map fun e => (i + j, e.val)) W
 | [], [], i, h => by simp [Instr.findAsking]
 | [], _ :: _, i, h => by simp at h
 | _ :: _, [], i, h => by simp at h
 | x :: l, e :: es, i, h => by
  simp only [aM, cq] at h
  obtain ⟨h1, b⟩ := h
  simp only [Instr.findAsking, aQ, h1, a, aH, cv]
  cases c : beq k x with
  | true => simp
  | false =>
   simp only [aq, bj]
   rw [tF a k l es (i + 1) b]
   cases l.findIdx? (fun x => beq k x) with
   | none => rfl
   | some j => simp [dh, Nat.add_comm 1 j]
theorem Ab {kind : TypeDesc} (hk : ∀ a b, Instr.sameNow kind (.agg a) b = none) (a : Array Value) : ∀ (es : List MapEntry) (i : Nat), Instr.findNow kind (.agg a) es i = if es = [] then some none else none
 | [], i => by simp [Instr.findNow]
 | e :: es, i => by simp [Instr.findNow, hk]
theorem jC.struct {enc : κ → List Value} {fs : Array Field} (n : P.underlying kt = some (.struct fs)) (m : ∀ d x y W, (Op.equalIn (d + 10) kt (.agg (enc x).toArray) (.agg (enc y).toArray)).run P W = .ok (beq x y) W) (j : ∀ b k W, (Instr.checkKey b 10000 kt (.agg (enc k).toArray)).run P W = .ok () W) (he : ∀ k x, beq k x = true → x = k) (i : ∀ k, Instr.sameBits 10000 (.agg (enc k).toArray) (.agg (enc k).toArray) = true) : jC P kt (fun x => .agg (enc x).toArray) beq where
 check := j
 find := fun k l es h W => by
  have c : ∀ x y W, (Op.equal kt (.agg (enc x).toArray) (.agg (enc y).toArray)).run P W = .ok (beq x y) W := fun x y W => m 9990 x y W
  simp only [Instr.findKey, aQ, al n, aH]
  rw [Ab (fun a b => by cases b <;> rfl)]
  by_cases g : es = []
  ·subst g
   have : l = [] := by simpa using h.symm
   subst this
   simp
  ·rw [ai g]
   dsimp only
   rw [show Instr.findAsking kt (.agg (enc k).toArray) es = Instr.findAsking kt (.agg (enc k).toArray) es 0 from rfl, tF c k l es 0 h]
   simp
 eq := fun k x h => by rw [he k x h]
 bits := i
theorem iy {a b : ByteArray} : gX a b = true ↔ a = b := by
 unfold gX
 rw [dj, dj]
 constructor
 ·intro h
  have h1 : a.data.toList = b.data.toList := by simpa using h
  exact fQ (Array.toList_inj.1 h1)
 ·rintro rfl
  simp
theorem sy (a b : ByteArray) : (a == b) = gX a b := by
 rw [bz, iy]
 constructor
 ·intro h
  have h1 : (a.data == b.data) = true := h
  exact fQ (by simpa using h1)
 ·rintro rfl
  show (a.data == a.data) = true
  simp
theorem tK (k : ByteArray) : ∀ (l : List ByteArray) (es : List MapEntry) (i : Nat), es.map (·.key) = l.map Value.string →
  Instr.findNow .string (.string k) es i = some ((l.findIdx? (fun x => gX k x)).bind fun j => (es[j]?).map fun e => (i + j, e.val))
 | [], [], i, h => by simp [Instr.findNow]
 | [], _ :: _, i, h => by simp at h
 | _ :: _, [], i, h => by simp at h
 | x :: l, e :: es, i, h => by
  simp only [aM, cq] at h
  obtain ⟨h1, a⟩ := h
  simp only [Instr.findNow, h1, Instr.sameNow, sy, cv]
  cases b : gX k x with
  | true => simp
  | false =>
   simp only [aq, bj]
   rw [tK k l es (i + 1) a]
   cases l.findIdx? (fun x => gX k x) with
   | none => rfl
   | some j => simp [dh, Nat.add_comm 1 j]
theorem mD (a : P.underlying kt = some .string) (n : Nat) (b : Bool) (k : ByteArray) (W : World) : (Instr.checkKey b (n + 1) kt (.string k)).run P W = .ok () W := by
 simp [Instr.checkKey, al a]
theorem jC.string (a : P.underlying kt = some .string) : jC P kt Value.string gX where
 check := fun b k W => mD a 9999 b k W
 find := fun k l es h W => by
  simp only [Instr.findKey, aQ, al a, aH]
  have := tK k l es 0 h
  rw [this]
  simp
 eq := fun k x h => by rw [iy.1 h]
 bits := fun k => by simp only [Instr.sameBits]; rw [sy]; exact iy.2 rfl
variable {β : Type} {vf : β → Value} {E : Nat → Value} {d : Option Nat} {ty : TypeId} {pos : String} {af : Array Edge} {g : Option (Nat × Bool)} {F : Nat → Prop} {w : World} {μ : gS} {L : List (Nat × Obj)}
theorem mo.keys {l : List (κ × β)} {es : Array MapEntry} {clock : Nat} (h : mo kenc vf l es clock) : es.toList.map (·.key) = (l.map (·.1)).map kenc := by
 have := ap (List.map Prod.fst) h.qX
 simpa [db] using this
theorem mo.length {l : List (κ × β)} {es : Array MapEntry} {clock : Nat} (h : mo kenc vf l es clock) : es.size = l.length := by
 have := ap List.length h.qX
 simpa using this
theorem mo.get {l : List (κ × β)} {es : Array MapEntry} {clock : Nat} (h : mo kenc vf l es clock) (k : κ) :
  (((l.map (·.1)).findIdx? (fun x => beq k x)).bind fun i => (es.toList[i]?).map fun e => (i, e.val)) = (l.findIdx? (fun p => beq k p.1)).bind fun i => (l[i]?).map fun p => (i, vf p.2) := by
 rw [ec]
 show ((l.findIdx? (fun p => beq k p.1)).bind _) = _
 congr 1
 funext i
 have := ap (fun q => q[i]?) h.qX
 simp only [bX] at this
 cases h1 : es.toList[i]? with
 | none => rw [h1] at this; cases a : l[i]? with
  | none => rfl
  | some p => rw [a] at this; cases this
 | some e => rw [h1] at this; cases a : l[i]? with
  | none => rw [a] at this; cases this
  | some p => rw [a] at this; simp at this; simp [this.2]
theorem ph (l : List (κ × β)) (k : κ) : gV beq l k = (l.findIdx? (fun p => beq k p.1)).bind fun i => (l[i]?).map (·.2) := by
 induction l with
 | nil => rfl
 | cons p l ih =>
  simp only [gV, gd, cv] at ih ⊢
  cases beq k p.1 with
  | true => rfl
  | false =>
   simp only [aq, bj]
   rw [ih]
   cases l.findIdx? (fun p => beq k p.1) <;> simp
theorem yZ {t e : TypeId} {m x : Operand} {q z : Value} {l : List (κ × β)} {k : κ} (K : jC P kt kenc beq) (n : P.underlying t = some (.map kt e)) (b : ∀ w, (zeroValue e).run P w = .ok z w) (hm : gz E m = q) (v : gz E x = kenc k) (s : kL kenc vf (hp W) q l) :
  iu P E ⟨d, .lookup t m x false, ty, pos, af, g⟩ W (((gV beq l k).map vf).getD z) W := by
 show (do pure (.value (← Instr.lookup t (gz E m) (gz E x) false)) : Sem Next).run P W = _
 rw [hm, v]
 rcases s with ⟨rfl, rfl⟩ | ⟨o, es, clock, rfl, u, c⟩
 ·have := K.find k [] [] rfl W
  simp [Instr.lookup, al n, K.check, this, b W, gV]
 ·have a : W.heap[o]? = some (.map es clock) := u
  have r : (getObj o : Sem Obj).run P W = .ok (.map es clock) W := by simp [getObj, Sem.run, a]
  have h := K.find k _ _ c.keys W
  rw [c.get k] at h
  simp only [Instr.lookup, aQ, al n, aH, r, bq, K.check, h, ph]
  cases y : l.findIdx? (fun p => beq k p.1) with
  | none => simp [b W]
  | some i =>
   cases j : l[i]? with
   | none => simp [j, b W]
   | some p => simp [j]
theorem kC {l : List (κ × β)} {k : κ} {i : Nat} (h : l.findIdx? (fun p => beq k p.1) = some i) : ∃ p, l[i]? = some p ∧ beq k p.1 = true := by
 rw [bw] at h
 obtain ⟨h1, a, _⟩ := h
 exact ⟨l[i], bE h1, a⟩
theorem mo.put {l : List (κ × β)} {es : Array MapEntry} {clock : Nat} (h : mo kenc vf l es clock) (k : κ) (v : β) :
  match l.findIdx? (fun p => beq k p.1) with
  | some i => mo kenc vf (l.set i (k, v)) (es.modify i fun e => { e with key := kenc k, val := vf v }) clock
  | none => mo kenc vf (l ++ [(k, v)]) (es.push { key := kenc k, val := vf v, born := clock }) (clock + 1) := by
 cases o : l.findIdx? (fun p => beq k p.1) with
 | none =>
  refine ⟨?_, ?_, ?_⟩
  ·simp [h.qX]
  ·simp only [Array.toList_push, dC]
   exact ⟨h.born, by simp, fun a t b n => by simp at n; subst n; exact h.lt a t⟩
  ·intro e he
   simp at he
   rcases he with he | rfl
   ·exact Nat.lt_succ_of_lt (h.lt e (by simpa using he))
   ·exact bl _
 | some i =>
  obtain ⟨p, hp, _⟩ := kC o
  have u : i < l.length := (aw.1 hp).1
  have c : (es.modify i fun e => { e with key := kenc k, val := vf v }).toList.map (·.born) = es.toList.map (·.born) := by
   apply cy
   intro j
   simp only [bX, bd, bV]
   split
   ·cases es[j]? <;> simp
   ·rfl
  refine ⟨?_, ?_, ?_⟩
  ·apply cy
   intro j
   have g := ap (fun q => q[j]?) h.qX
   simp only [bX, bd] at g
   simp only [bX, bd, bV, da]
   by_cases d : i = j
   ·subst d
    simp only [aY]
    rw [ak u]
    cases r : es[i]? with
    | none => rw [r, hp] at g; cases g
    | some e => rfl
   ·rw [ai d, ai d]; exact g
  ·have := h.born
   rw [← ch (f := fun e : MapEntry => e.born) (R := (· < ·))] at this ⊢
   rw [c]; exact this
  ·intro e he
   have : e.born ∈ es.toList.map (·.born) := by rw [← c]; exact aK.2 ⟨e, he, rfl⟩
   obtain ⟨e', m, s⟩ := aK.1 this
   rw [← s]; exact h.lt e' m
theorem nB {W : World} {r : Nat} {es : Array MapEntry} {c : Nat} (a : W.heap[r]? = some (.map es c)) (o' : Obj) : (setObj r o').run P W = .ok () (ChangeMaps.setBlock W r o') := by
 simp [setObj, Sem.run, a, ChangeMaps.setBlock]
theorem ST.setBlock {A B : List (Nat × Obj)} {b : Nat} {o : Obj} (h : ST dd F w W μ (A ++ (b, o) :: B)) (o' : Obj) : ST dd F w (ChangeMaps.setBlock W b o') μ (A ++ (b, o') :: B) := by
 have c := (h.box b o (by simp)).1
 have a := jI c
 refine h.put ⟨rfl, rfl, rfl, aJ _, by simp [ChangeMaps.setBlock]⟩ (fun k hk => ?_) ?_
 ·simp only [ChangeMaps.setBlock]
  rw [Array.getElem?_setIfInBounds_ne (fun e => hk e.symm)]
 ·simp only [ChangeMaps.setBlock]
  rw [Array.getElem?_setIfInBounds_self_of_lt a]
theorem qV {I : Value → World → Prop} (X : List (Nat × Obj)) {Y R : List (Nat × Obj)} {t e : TypeId} {m x y : Operand} {G : Value} {l : List (κ × β)} {k : κ} {v : β} (K : jC P kt kenc beq) (M : P.underlying t = some (.map kt e)) (j : ST dd F w W μ (X ++ (R ++ Y))) (h : gW kenc vf G l R) (hm : gz E m = G) (Q : gz E x = kenc k) (T : gz E y = vf v) (L : ∀ W' R', ST dd F w W' μ (X ++ (R' ++ Y)) → gW kenc vf G (iN beq l k v) R' → I undef W') : jh P E ⟨d, .mapUpdate t m x y, ty, pos, af, g⟩ W I := by
 obtain ⟨b, es, clock, rfl, rfl, s⟩ := h
 have u : W.heap[b]? = some (.map es clock) := (j.box b (.map es clock) (by simp)).1
 have J : (getObj b : Sem Obj).run P W = .ok (.map es clock) W := by simp [getObj, Sem.run, u]
 have n := K.find k _ _ s.keys W
 rw [s.get k] at n
 have a := s.put (beq := beq) k v
 have c : ∀ W', (Instr.mapUpdate t (.map (some b)) (kenc k) (vf v)).run P W = .ok () W' → (execOp (gz E) ⟨d, .mapUpdate t m x y, ty, pos, af, g⟩).run P W = .ok .skip W' := by
  intro W' O
  show (do Instr.mapUpdate t (gz E m) (gz E x) (gz E y); pure .skip : Sem Next).run P W = _
  rw [hm, Q, T]
  simp [O]
 cases o : l.findIdx? (fun p => beq k p.1) with
 | none =>
  rw [o] at n a
  refine .inr (.inl ⟨ChangeMaps.setBlock W b (.map (es.push { key := kenc k, val := vf v, born := clock }) (clock + 1)), c _ ?_, L _ [(b, _)] (j.setBlock _) ⟨b, _, _, rfl, rfl, ?_⟩⟩)
  ·simp [Instr.mapUpdate, al M, J, K.check, n, nB u]
  ·rw [iN, o]; exact a
 | some i =>
  obtain ⟨p, hp, A⟩ := kC o
  rw [o] at n a
  simp only [aa, hp, bA] at n
  have r : ((es[i]?).map (·.key)).getD (kenc k) = kenc k := by
   have := ap (fun q => q[i]?) s.keys
   simp only [bX, hp, bA, bd] at this
   rw [this]
   simp [K.eq k p.1 A]
  refine .inr (.inl ⟨ChangeMaps.setBlock W b (.map (es.modify i fun e => { e with key := kenc k, val := vf v }) clock), c _ ?_, L _ [(b, _)] (j.setBlock _) ⟨b, _, _, rfl, rfl, ?_⟩⟩)
  ·simp only [Instr.mapUpdate, aQ, al M, J, K.check, n, aH, r, Instr.keyThatStays, K.bits, aY, bq]
   exact nB u _
  ·rw [iN, o]; exact a
theorem yN {t e : TypeId} {m : Operand} {c : Value} {l : List (κ × β)} (b : P.underlying t = some (.map kt e)) (hm : gz E m = c) (i : kL kenc vf (hp W) c l) :
  iu P E ⟨d, .call ⟨.builtin .len, #[m], #[t]⟩, ty, pos, af, g⟩ W (.int .i64 l.length) W := by
 show (do let d ← resolve (gz E) ⟨.builtin .len, #[m], #[t]⟩ ty; invoke d.target d.args : Sem Next).run P W = _
 rcases i with ⟨rfl, rfl⟩ | ⟨k, es, clock, rfl, j, h⟩
 ·simp [resolve, invoke, builtin, Builtin.len_, al b, hm, goInt]
 ·have a : W.heap[k]? = some (.map es clock) := j
  simp [resolve, invoke, builtin, Builtin.len_, al b, hm, goInt, getObj, Sem.run, a, h.length]
theorem rk {b : Value → World → Prop} {t : TypeId} (kenc : κ → Value) (vf : β → Value) (a : ST dd F w W μ L) (c : ∀ W' v R, ST dd F w W' μ (R ++ L) → gW kenc vf v [] R → b v W') : jh P E ⟨d, .makeMap t none, ty, pos, af, g⟩ W b :=
 .inl ⟨.map (some W.heap.size), W.alloc (.map #[] 0), by
   show (do pure (.value (← Instr.makeMap t none)) : Sem Next).run P W = _
   simp [Instr.makeMap, newObj, Sem.run], c _ _ [(W.heap.size, .map #[] 0)] (a.alloc _) ⟨_, _, _, rfl, rfl, ⟨rfl, by simp, by simp⟩⟩⟩
end
end Go.Proofs.YtbnbdigcbldfhaaGreat
namespace Go.Proofs.YtbnbdigcbldfhaaGreat
open Go.RowKit
variable {dd : Bool}
open Classical in
noncomputable def rh {α β : Type} (l : List α) (f : List α → Option β) : Option β :=
 if h : ∃ r, ∀ o, o.Perm l → f o = some r then some h.choose else none
theorem xL {α β : Type} {l : List α} {f : List α → Option β} {r : β} (h : rh l f = some r) : ∀ o, o.Perm l → f o = some r := by
 unfold rh at h
 split at h
 ·rename_i a
  cases h
  exact a.choose_spec
 ·cases h
theorem wK {α β : Type} {l : List α} {f : List α → Option β} {r : β} (h : ∀ o, o.Perm l → f o = some r) : rh l f = some r := by
 have a : ∃ r, ∀ o, o.Perm l → f o = some r := ⟨r, h⟩
 unfold rh
 rw [dif_pos a]
 have h1 := a.choose_spec l (.refl l)
 rw [h l (.refl l)] at h1
 exact h1.symm
def wB {κ β : Type} (kenc : κ → Value) (vf : β → Value) (μ : gS) (v : Value) (left : List (κ × β)) (R : List (Nat × Obj)) : Prop :=
 ∃ it, v = .pointer (some ⟨it, 0, none⟩) ∧ ((left = [] ∧ ∃ a s c, R = [(it, .mapIter none a s c)]) ∨
  ∃ (m : Nat) (es : Array MapEntry) (clock : Nat) (seen : Array Nat) (b : Nat) (l : List (κ × β)), μ m = some (.map es clock) ∧ mo kenc vf l es clock ∧ R = [(it, .mapIter (some m) clock seen b)] ∧ clock ≤ b ∧ (leftOf es seen).toList.map (fun e => (e.key, e.val)) = left.map (fun p => (kenc p.1, vf p.2)))
def uE {κ β : Type} (kenc : κ → Value) (vf : β → Value) (μ : gS) (v : Value) (left : List (κ × β)) (R : List (Nat × Obj)) (p : κ × β) : Prop :=
 ∃ (it m : Nat) (es : Array MapEntry) (clock : Nat) (seen : Array Nat) (l : List (κ × β)) (e : MapEntry), v = .pointer (some ⟨it, 0, none⟩) ∧ μ m = some (.map es clock) ∧ mo kenc vf l es clock ∧ R = [(it, .mapIter (some m) clock (seen.push e.born) clock)] ∧ e ∈ es.toList ∧ e.key = kenc p.1 ∧ e.val = vf p.2 ∧
  (leftOf es (seen.push e.born)).toList.map (fun e => (e.key, e.val)) = left.map (fun p => (kenc p.1, vf p.2))
section
variable {P : Program} {W : World} {κ β : Type} {kenc : κ → Value} {vf : β → Value} {E : Nat → Value} {d : Option Nat} {ty : TypeId} {pos : String} {af : Array Edge} {g : Option (Nat × Bool)} {F : Nat → Prop} {w : World} {μ : gS} {L R : List (Nat × Obj)} {v : Value} {left : List (κ × β)}
theorem uE.iter {p : κ × β} (h : uE kenc vf μ v left R p) : wB kenc vf μ v left R := by
 obtain ⟨it, m, es, clock, seen, l, e, h1, a, b, c, _, _, _, d⟩ := h
 exact ⟨it, h1, .inr ⟨m, es, clock, _, _, l, a, b, c, aJ _, d⟩⟩
theorem wB.mono {μ' : gS} (h : wB kenc vf μ v left R) (d : gZ μ μ') : wB kenc vf μ' v left R := by
 obtain ⟨it, h1, h | ⟨m, es, clock, seen, a, l, b, c⟩⟩ := h
 ·exact ⟨it, h1, .inl h⟩
 ·exact ⟨it, h1, .inr ⟨m, es, clock, seen, a, l, d _ _ b, c⟩⟩
theorem DQ {h : Value → World → Prop} {t kt e : TypeId} {m : Operand} {o : Value} {l : List (κ × β)} (n : P.underlying t = some (.map kt e)) (b : ST dd F w W μ L) (hm : gz E m = o) (p : kL kenc vf μ o l) (j : ∀ W' v R, ST dd F w W' μ (R ++ L) → wB kenc vf μ v l R → h v W') : jh P E ⟨d, .range t m, ty, pos, af, g⟩ W h := by
 rcases p with ⟨rfl, rfl⟩ | ⟨c, es, clock, rfl, k, i⟩
 ·refine .inl ⟨_, _, ?_, j (W.alloc (.mapIter none 0 #[] 0)) (.pointer (some ⟨W.heap.size, 0, none⟩)) [(W.heap.size, _)] (b.alloc _) ⟨_, rfl, .inl ⟨rfl, _, _, _, rfl⟩⟩⟩
  show (do pure (.value (← Instr.range t (gz E m))) : Sem Next).run P W = _
  rw [hm]; simp [run_range_nilMap W t kt e n]
 ·refine .inl ⟨_, _, ?_, j (W.alloc (.mapIter (some c) clock #[] clock)) (.pointer (some ⟨W.heap.size, 0, none⟩)) [(W.heap.size, _)] (b.alloc _) ⟨_, rfl, .inr ⟨c, es, clock, #[], clock, l, k, i, rfl, aJ _, ?_⟩⟩⟩
  ·show (do pure (.value (← Instr.range t (gz E m))) : Sem Next).run P W = _
   rw [hm]; simp [run_range_map W t kt e c es clock n (b.mem _ _ k)]
  ·rw [← i.qX]; simp only [leftOf, dO]; rw [dl.2 (fun a _ => by simp)]
theorem Aj {l : List (κ × β)} {es : Array MapEntry} {clock : Nat} (h : mo kenc vf l es clock) (seen : Array Nat) {e : MapEntry} (he : e ∈ (leftOf es seen).toList) :
  ∃ A B, (leftOf es seen).toList = A ++ e :: B ∧ (leftOf es (seen.push e.born)).toList = A ++ B := by
 have d : (leftOf es seen).toList.Pairwise (fun a b => a.born < b.born) := by
  simp only [leftOf, dO]
  exact h.born.filter _
 have k : (leftOf es (seen.push e.born)).toList = (leftOf es seen).toList.filter (fun x => !(x.born == e.born)) := by
  simp only [leftOf, dO, List.filter_filter]
  congr 1
  funext x
  rw [show (seen.push e.born).contains x.born = (seen.contains x.born || x.born == e.born) by rw [bz]; simp [Array.mem_push]]
  cases seen.contains x.born <;> cases (x.born == e.born) <;> rfl
 obtain ⟨A, B, c⟩ := du he
 refine ⟨A, B, c, ?_⟩
 rw [k, c]
 rw [c] at d
 have h1 := dC.1 d
 have g := bN.1 h1.2.1
 simp only [eV, dr, bR, cn, aq, bj]
 congr 1
 ·rw [dl]
  intro a i
  have := h1.2.2 a i e (by simp)
  simp; omega
 ·rw [dl]
  intro b j
  have := g.1 b j
  simp; omega
theorem A9 {l : List (κ × β)} {es : Array MapEntry} {clock : Nat} (h : mo kenc vf l es clock) : (es.toList.map (·.born)).Nodup := by
 rw [List.Nodup, ch]
 exact h.born.imp (fun h => Nat.ne_of_lt h)
theorem D4 {x : Operand} {p : κ × β} (hH : ∀ q, q ∈ R → W.heap[q.1]? = some q.2) (hm : ∀ b o, μ b = some o → W.heap[b]? = some o) (h : uE kenc vf μ v left R p) (n : gz E x = v) :
  iu P E ⟨d, .entry x, ty, pos, af, g⟩ W (.tuple #[kenc p.1, vf p.2]) W := by
 obtain ⟨it, m, es, clock, seen, l, e, rfl, a, c, rfl, i, j, k, _⟩ := h
 have := run_entry_at (P := P) W it m clock seen es clock e (hH _ (aA.2 rfl)) (hm _ _ a) i (A9 c)
 show (do pure (.value (← Instr.entry (gz E x))) : Sem Next).run P W = _
 rw [n, ← j, ← k]
 simp [this]
end
end Go.Proofs.YtbnbdigcbldfhaaGreat
namespace Go.Proofs.YtbnbdigcbldfhaaGreat
open Go.RowKit
variable {dd : Bool}
def wU {α β : Type} (P : Program) (fv : Value) (μ : gS) (av : α → List Value) (a : β → Value) (pm : α → Option β) : Prop :=
 ∃ f caps, fv = .func (.func f) #[] caps ∧ (∀ args w, (callFunc f args).run P w = .ok (.enter f args) w) ∧ ∀ W x r, gZ μ (hp W) → pm x = some r → iA true P f (av x ++ caps.toList) W (a r)
def qt {α β : Type} (P : Program) (fv : Value) (μ : gS) (av : α → List Value) (a : β → Value) (pm : α → Option β) : Prop :=
 ∃ f first caps, fv = .func (.func f) first caps ∧ (∀ args w, (callFunc f args).run P w = .ok (.enter f args) w) ∧ ∀ W x r, gZ μ (hp W) → pm x = some r → iA false P f (first.toList ++ (av x ++ caps.toList)) W (a r)
theorem qt.form {α β : Type} {P : Program} {fv : Value} {μ : gS} {av : α → List Value} {c : β → Value} {pm : α → Option β} (h : qt P fv μ av c pm) : ∃ f a b, fv = .func f a b := let ⟨f, a, b, h, _⟩ := h; ⟨_, a, b, h⟩
section
variable {P : Program} {W : World} {E : Nat → Value} {d : Option Nat} {ty : TypeId} {pos : String} {af : Array Edge} {g : Option (Nat × Bool)} {F : Nat → Prop} {w : World} {μ μ0 : gS} {L : List (Nat × Obj)}
theorem qt.mono {α β : Type} {fv : Value} {av : α → List Value} {a : β → Value} {pm : α → Option β} (h : qt P fv μ av a pm) (d : gZ μ μ0) : qt P fv μ0 av a pm := by
 obtain ⟨f, first, caps, h1, b, c⟩ := h
 exact ⟨f, first, caps, h1, b, fun W x r h => c W x r (d.trans h)⟩
theorem u5 {α β : Type} {K : Value → World → Prop} {fv : Value} {av : α → List Value} {i : β → Value} {pm : α → Option β} {b : Operand} {ax : Array Operand} {ats : Array TypeId} (x : α) {r : β} (a : ST false F w W μ L) (o : qt P fv μ0 av i pm) (q : gZ μ0 μ) (p : gz E b = fv) (n : ax.map (gz E) ++ (#[] : Array Value) = (av x).toArray) (hm : pm x = some r) (h : ∀ W', ST false F w W' μ L → K (i r) W') : jh P E ⟨d, .call ⟨.value b, ax, ats⟩, ty, pos, af, g⟩ W K := by
 obtain ⟨f, first, caps, rfl, j, k⟩ := o
 have c : ax.map (gz E) = (av x).toArray := by simpa using n
 refine .inr (.inr ⟨f, (first.toList ++ (av x ++ caps.toList)).toArray, ?_, bf (k W x r (q.trans a.iH) hm) (fun _ _ ⟨l, m⟩ => ⟨_, l, h _ (a.Bi m)⟩)⟩)
 show (do let d ← resolve (gz E) ⟨.value b, ax, ats⟩ ty; invoke d.target d.args : Sem Next).run P W = _
 simp only [resolve, p, Deferred.ofValue, aQ, bq, aH, invoke, c, j]
 congr 2
 simp
end
end Go.Proofs.YtbnbdigcbldfhaaGreat
namespace Go.Proofs.YtbnbdigcbldfhaaGreat
open Go.RowKit
variable {dd : Bool}
def uI (A : List (Nat × Obj)) : gS := fun b => (A.find? (fun p => p.1 == b)).map (·.2)
theorem qg {A : List (Nat × Obj)} {W : World} (h : ∀ b o, (b, o) ∈ A → W.heap[b]? = some o) : ∀ b o, uI A b = some o → W.heap[b]? = some o := fun b o a => by
 unfold uI at a
 cases c : A.find? (fun p => p.1 == b) with
 | none => rw [c] at a; cases a
 | some p =>
  rw [c] at a
  cases a
  have h1 := List.mem_of_find?_eq_some c
  have d := List.find?_some c
  simp at d
  subst d
  exact h _ _ h1
theorem At.of {M : gS} {b : Nat} {cs : Array Value} {T : TypeId} {fr : Nat × Nat} (h : M b = some (.cells cs T fr)) (ys : List Value) (c : cs.toList = ys) : At M (.pointer (some ⟨b, 0, none⟩)) ys :=
 ⟨b, 0, cs, T, fr, rfl, h, fun j y a => by subst c; simpa using a⟩
section
variable {F : Nat → Prop} {w W W' : World} {μ μ' : gS} {L L0 L1 L2 : List (Nat × Obj)}
theorem ST.AE (h : ST dd F w W μ L) (a : L.Perm (L0 ++ L2)) : ∀ b o, (b, o) ∈ L2 → mG W L0 b = some o := fun b o c => by
 have h1 := (h.perm a).at_ (aZ _ c)
 unfold mG
 rw [ai (vt (h.perm a).nd c)]
 exact h1
theorem ST.held (h : ST dd F w W μ L) (a : L.Perm (L0 ++ L2)) : sW L0 W := fun b o c => ((h.perm a).box b o (aR _ c)).1
theorem ST.Bk (h : ST dd F w W μ L) (a : L.Perm (L0 ++ L2)) : (L0.map (·.1)).Nodup := by
 have := (h.perm a).nd
 rw [aO] at this
 exact (aD.1 this).1
theorem ST.Ba (h : ST dd F w W μ L) (a : L.Perm (L0 ++ L2)) : gZ μ (mG W L0) := (h.perm a).Av (fun _ hp => aR _ hp)
end
section
variable {P : Program} {E : Nat → Value} {W : World} {d : Option Nat} {ty : TypeId} {pos : String} {af : Array Edge} {g : Option (Nat × Bool)}
 {F : Nat → Prop} {w : World} {μ : gS} {L : List (Nat × Obj)}
theorem Ea {K : Value → World → Prop} {K' : Value → List (Nat × Obj) → World → Prop} {f : FuncId} {fv : Operand} {ax : Array Operand} {ats : Array TypeId} {caps : Array Value} {args : List Value} (L0 L2 : List (Nat × Obj)) (a : ST dd F w W μ L) (c : L.Perm (L0 ++ L2)) (n : gz E fv = .func (.func f) #[] caps) (he : ∀ args w, (callFunc f args).run P w = .ok (.enter f args) w) (l : ax.map (gz E) ++ (#[] : Array Value) = args.toArray) (m : sW L0 W → (L0.map (·.1)).Nodup → gZ μ (mG W L0) → (∀ b o, (b, o) ∈ L2 → mG W L0 b = some o) → ie dd P f (args ++ caps.toList) W L0 K') (h : ∀ W' v μ' L1, ST dd F w W' μ' (L1 ++ L2) → gZ μ μ' → Lo F w μ μ' → (∀ b, W.heap.size ≤ b → ∀ o, mG W' L1 b = some o → μ' b = some o) → K' v L1 W' → K v W') : jh P E ⟨d, .call ⟨.value fv, ax, ats⟩, ty, pos, af, g⟩ W K := by
 have i : ax.map (gz E) = args.toArray := by simpa using l
 refine vp (args := (args ++ caps.toList).toArray) n he (by rw [i]; simp) (bf (m (a.held c) (a.Bk c) (a.Ba c) (a.AE c)) (fun _ W' ⟨v, L1, h1, j, k⟩ => ⟨v, h1, h W' v _ L1 ((a.perm c).back j) ((a.perm c).uU W' L1) ((a.perm c).wj W' L1) ?_ k⟩))
 intro b q o p
 unfold sx
 rw [ai (by omega)]
 exact p
theorem Sl.lift {α : Type} {enc : α → List Value} {k : Nat} {M μ' : gS} {B : Nat} {v : Value} {l : List α} (h : Sl (Pl enc) k M v l) (p : Fr B v) (n : ∀ b, B ≤ b → ∀ o, M b = some o → μ' b = some o) : Sl (Pl enc) k μ' v l := by
 obtain ⟨A, c, h1, d, g, i⟩ := h
 refine ⟨A, c, h1, d, g, fun q => ?_⟩
 obtain ⟨b, off, cs, T, fr, a, j, m⟩ := i q
 exact ⟨b, off, cs, T, fr, a, n b (p b (by rw [h1, a]; rfl)) _ j, m⟩
theorem vZ {t : TypeId} (dd : Nat) {s u : Array TypeId} {b : Bool} (d : P.underlying t = some (.func s u b)) (f : Fn) (a c : Array Value) (W : World) : (Op.equalIn (dd + 1) t (.func f a c) .nilFunc).run P W = .ok false W := by
 simp [Op.equalIn, al d]
theorem zT {c m : TypeId} {x y : Operand} {f : Fn} {a b : Array Value} {s u : Array TypeId} {h : Bool} (j : P.underlying c = some (.func s u h)) (k : gz E x = .func f a b) (l : gz E y = .nilFunc) :
  iu P E ⟨d, .binOp .eql c x y m, ty, pos, af, g⟩ W (.bool false) W := by
 show (do let r ← (do eqGuard .eql c x y (gz E x) (gz E y); binOp .eql c (gz E x) (gz E y)); pure (.value r) : Sem Next).run P W = _
 rw [k, l]
 have i := vZ 9999 j f a b W
 simp [eqGuard, binOp, Op.equal, show Op.maxDepth = 9999 + 1 from rfl, i]
end
def iP {κ β : Type} (beq : κ → κ → Bool) (l : List (κ × β)) (k : κ) (z : β) : β := (gV beq l k).getD z
section
variable {P : Program} {W : World} {κ β : Type} {kt : TypeId} {kenc : κ → Value} {beq : κ → κ → Bool} {vf : β → Value} {E : Nat → Value} {d : Option Nat} {ty : TypeId} {pos : String} {af : Array Edge} {g : Option (Nat × Bool)} {F : Nat → Prop} {w : World} {μ : gS} {L R : List (Nat × Obj)} {v : Value} {left : List (κ × β)}
theorem oz {t e : TypeId} {m x : Operand} {a : Value} {l : List (κ × β)} {k : κ} {z : β} (K : jC P kt kenc beq) (c : P.underlying t = some (.map kt e)) (j : ∀ w, (zeroValue e).run P w = .ok (vf z) w) (hm : gz E m = a) (i : gz E x = kenc k) (b : kL kenc vf (hp W) a l) :
  iu P E ⟨d, .lookup t m x false, ty, pos, af, g⟩ W (vf (iP beq l k z)) W := by
 have := yZ (d := d) (ty := ty) (pos := pos) (af := af) (g := g) K c j hm i b
 rw [iP]
 cases h : gV beq l k with
 | none => rw [h] at this; exact this
 | some y => rw [h] at this; exact this
theorem tW {t e : TypeId} {m x : Operand} {q : Value} {l : List (κ × β)} {k : κ} {z : β} (K : jC P kt kenc beq) (n : P.underlying t = some (.map kt e)) (b : ∀ w, (zeroValue e).run P w = .ok (vf z) w) (hm : gz E m = q) (v : gz E x = kenc k) (s : kL kenc vf (hp W) q l) :
  iu P E ⟨d, .lookup t m x true, ty, pos, af, g⟩ W (.tuple #[vf (iP beq l k z), .bool (gV beq l k).isSome]) W := by
 show (do pure (.value (← Instr.lookup t (gz E m) (gz E x) true)) : Sem Next).run P W = _
 rw [hm, v]
 rcases s with ⟨rfl, rfl⟩ | ⟨o, es, clock, rfl, u, c⟩
 ·have := K.find k [] [] rfl W
  simp [Instr.lookup, al n, K.check, this, b W, gV, iP]
 ·have a : W.heap[o]? = some (.map es clock) := u
  have r : (getObj o : Sem Obj).run P W = .ok (.map es clock) W := by simp [getObj, Sem.run, a]
  have h := K.find k _ _ c.keys W
  rw [c.get k] at h
  simp only [Instr.lookup, aQ, al n, aH, r, bq, K.check, h, iP, ph]
  cases y : l.findIdx? (fun p => beq k p.1) with
  | none => simp [b W]
  | some i =>
   cases j : l[i]? with
   | none => simp [j, b W]
   | some p => simp [j]
theorem gW.one {a : Value} {l : List (κ × β)} (h : gW kenc vf a l R) : a.oneCell' = true := by obtain ⟨m, es, clock, rfl, _⟩ := h; rfl
theorem gW.form {a : Value} {l : List (κ × β)} (h : gW kenc vf a l R) : ∃ m, a = .map (some m) := by obtain ⟨m, es, clock, rfl, _⟩ := h; exact ⟨m, rfl⟩
theorem gW.nd {a : Value} {l : List (κ × β)} (h : gW kenc vf a l R) : (R.map (·.1)).Nodup := by obtain ⟨m, es, clock, rfl, rfl, _⟩ := h; simp
theorem DV {y : Value → World → Prop} {M : gS} (X : List (Nat × Obj)) {Y : List (Nat × Obj)} {x : Operand} (j : ST dd F w W μ (X ++ (R ++ Y))) (hW : ∀ b o, M b = some o → W.heap[b]? = some o) (h : wB kenc vf M v left R) (hx : gz E x = v) (k : left = [] → y (.tuple #[.bool false]) W) (q : ∀ W' R' p i, left.Perm (p :: i) → ST dd F w W' μ (X ++ (R' ++ Y)) → uE kenc vf M v i R' p → y (.tuple #[.bool true, kenc p.1, vf p.2]) W') :
  jh P E ⟨d, .next x false, ty, pos, af, g⟩ W y := by
 have Q : ∀ T W', (Instr.next v false ty).run P W = .ok T W' → (execOp (gz E) ⟨d, .next x false, ty, pos, af, g⟩).run P W = .ok (.value T) W' := by
  intro T W' hv
  show (do pure (.value (← Instr.next (gz E x) false ty)) : Sem Next).run P W = _
  rw [hx]; simp [hv]
 obtain ⟨it, rfl, ⟨rfl, a, s, c, rfl⟩ | ⟨m, es, clock, seen, G, l, U, K, rfl, h4, t⟩⟩ := h
 ·have O := (j.box it (.mapIter none a s c) (by simp)).1
  refine .inl ⟨.tuple #[.bool false], W, Q _ _ ?_, k rfl⟩
  simp only [Instr.next, getObj, aQ, Sem.run, O, Result.andThen]
  rfl
 ·have O := (j.box it (.mapIter (some m) clock seen G) (by simp)).1
  rcases run_next_at (P := P) W ty it m clock G seen es clock O (hW _ _ U) K.lt h4 with ⟨u, L⟩ | ⟨e, u, w1, L, Z⟩
  ·refine .inl ⟨_, W, Q _ _ L, k ?_⟩
   have := ap List.length t
   simp [u] at this
   exact bu.1 this.symm
  ·obtain ⟨A, B, hA, hB⟩ := Aj K seen u
   rw [hA] at t
   have hl : ∃ LA p LB, left = LA ++ p :: LB ∧ A.map (fun e => (e.key, e.val)) = LA.map (fun p => (kenc p.1, vf p.2)) ∧ (e.key, e.val) = (kenc p.1, vf p.2) ∧ B.map (fun e => (e.key, e.val)) = LB.map (fun p => (kenc p.1, vf p.2)) := by
    rw [aO, aM] at t
    obtain ⟨LA, LB', e1, I, n⟩ := List.map_eq_append_iff.1 t.symm
    obtain ⟨p, LB, J, e5, e6⟩ := List.map_eq_cons_iff.1 n
    exact ⟨LA, p, LB, by rw [e1, J], I.symm, e5.symm, e6.symm⟩
   obtain ⟨LA, p, LB, rfl, I, n, J⟩ := hl
   have he : e ∈ es.toList := by
    have : e ∈ (leftOf es seen).toList := u
    simp only [leftOf, dO] at this
    exact (cr.1 this).1
   simp only [ew] at n
   rw [n.1, n.2] at Z
   have r : ST dd F w w1 μ (X ++ ([(it, .mapIter (some m) clock seen G)] ++ Y)) := by
    rcases L with rfl | rfl
    ·exact j
    ·exact j.drew
   refine .inl ⟨_, _, Q _ _ Z, q _ [(it, _)] p (LA ++ LB) cE (ST.setBlock (A := X) r _) ⟨it, m, es, clock, seen, l, e, rfl, U, K, rfl, he, n.1, n.2, ?_⟩⟩
   rw [hB, aO, I, J, aO]
theorem Cw {M : gS} {x : Operand} {p : κ × β} (hH : ∀ q, q ∈ R → W.heap[q.1]? = some q.2) (hm : ∀ b o, M b = some o → W.heap[b]? = some o) (h : uE kenc vf M v left R p) (a : gz E x = v) :
  iu P E ⟨d, .entry x, ty, pos, af, g⟩ W (.tuple #[kenc p.1, vf p.2]) W := D4 (μ := M) hH hm h a
end
def lC {α : Type} (l : List α) (i : Nat) (z : α) : List α := l.take i ++ List.replicate (l.length - i) z
theorem oL {α : Type} (l : List α) (i : Nat) (z : α) (h : i ≤ l.length) : (lC l i z).length = l.length := by simp [lC]; omega
theorem vQ {α : Type} (l : List α) (i : Nat) (z : α) (h : i ≤ l.length) : (lC l i z).take i = l.take i := by
 simp only [lC]
 rw [dq, bM (by simp; omega)]
 simp; omega
end Go.Proofs.YtbnbdigcbldfhaaGreat
namespace Go.Proofs.YtbnbdigcbldfhaaGreat
open Go.RowKit
theorem yb {P : Program} {cs : Array Value} {b : Bool} {n : Nat} {W : World} : ∀ (l : List Field),
  (∀ f ∈ l, f.name ≠ "_" → ∃ v, (part f.type cs f.offset).run P W = .ok v W ∧ (Instr.checkKey b n f.type v).run P W = .ok () W) →
  ((forIn l PUnit.unit fun f (_ : PUnit) => do
   if f.name ≠ "_" then Instr.checkKey b n f.type (← part f.type cs f.offset)
   pure (ForInStep.yield PUnit.unit)) : Sem PUnit).run P W = .ok PUnit.unit W
 | [], _ => by simp
 | f :: l, h => by
  have ih := yb l (fun f d => h f (cJ _ d))
  simp only [List.forIn_cons, aQ]
  by_cases a : f.name ≠ "_"
  ·obtain ⟨v, h1, c⟩ := h f (by simp) a
   simp only [ak a, aQ, h1, aH, c, bq]
   exact ih
  ·simp only [ai a, aQ, bq, aH]
   exact ih
theorem qw {P : Program} {kt : TypeId} {fs : Array Field} {l : List Field} {cs : Array Value} {b : Bool} {n : Nat} {W : World} (c : P.underlying kt = some (.struct fs)) (a : fs.toList = l) (h : ∀ f ∈ l, f.name ≠ "_" → ∃ v, (part f.type cs f.offset).run P W = .ok v W ∧ (Instr.checkKey b n f.type v).run P W = .ok () W) : (Instr.checkKey b (n + 1) kt (.agg cs)).run P W = .ok () W := by
 obtain ⟨fs⟩ := fs
 subst a
 simp only [Instr.checkKey, aQ, al c, aH, List.forIn_toArray]
 have := yb (P := P) (cs := cs) (b := b) (n := n) (W := W) fs h
 simp only [aQ] at this
 first | rw [this]; rfl | simpa using this
variable {dd : Bool}
def nS (b : Bool) : Option Unit := if b = true then some () else none
theorem y7 {b : Bool} {u : Unit} (h : nS b = some u) : b = true := by
 unfold nS at h; split at h
 ·assumption
 ·cases h
theorem pT {a c : Int} {u : Unit} (h : nS (decide (0 ≤ a) && decide (a ≤ c)) = some u) : 0 ≤ a := by have := y7 h; simp at this; exact this.1
theorem pP {a c : Int} {u : Unit} (h : nS (decide (0 ≤ a) && decide (a ≤ c)) = some u) : a ≤ c := by have := y7 h; simp at this; exact this.2
def xi (k : Nat) (v : Value) (i : Nat) (u : Value) : Prop := ∃ A n c A' a, v = .slice A n c ∧ u = .slice A' (n - i) a ∧ i ≤ n ∧ (i < n → ∃ b o, A = some ⟨b, o, none⟩ ∧ A' = some ⟨b, o + i * k, none⟩)
section
variable {P : Program} {E : Nat → Value} {W : World} {d : Option Nat} {ty : TypeId} {pos : String} {af : Array Edge} {g : Option (Nat × Bool)}
 {F : Nat → Prop} {w : World} {μ : gS} {L : List (Nat × Obj)} {α : Type} {e' : TypeId} {enc : α → List Value} {k : Nat} {v : Value} {l : List α} {R : List (Nat × Obj)}
theorem pK {t e : TypeId} {x a : Operand} {r : IntKind} {i : Int} (j : P.underlying t = some (.slice e)) (he : ∀ w, (sizeOf e).run P w = .ok k w) (m : gz E x = v) (b : gz E a = .int r i) (h : gM e' enc k v l R) (o : 0 ≤ i) (c : i ≤ l.length) :
  ∃ u, xi k v i.toNat u ∧ ∀ W, iu P E ⟨d, .slice t x (some a) none none, ty, pos, af, g⟩ W u W := by
 rcases h with ⟨rfl, rfl, rfl⟩ | ⟨g', cap, n, rfl, rfl, h1, s, y, A⟩
 ·have : i = 0 := by simp at c; omega
  subst this
  refine ⟨.slice none 0 0, ⟨none, 0, 0, none, 0, rfl, rfl, aJ _, fun h => absurd h (by simp)⟩, fun W => ?_⟩
  show (do pure (.value (← Instr.sliceAt t (gz E x) (some (gz E a)) none none)) : Sem Next).run P W = _
  rw [m, b]
  simp [Instr.sliceAt, Instr.slice, Instr.sliceBounds, Instr.sliceBound, asIntOf, al j, he W]
 ·refine ⟨.slice (some (if cap = i.toNat then ⟨g', 0, none⟩ else (Addr.add ⟨g', 0, none⟩ (i.toNat * k)))) (l.length - i.toNat) (cap - i.toNat), ⟨_, _, _, _, _, rfl, rfl, by omega, fun q => ⟨g', 0, rfl, ?_⟩⟩, fun W => ?_⟩
  ·rw [ai (by omega)]; simp [bW]
  ·show (do pure (.value (← Instr.sliceAt t (gz E x) (some (gz E a)) none none)) : Sem Next).run P W = _
   rw [m, b]
   have p : 0 ≤ i ∧ i ≤ (l.length : Int) := ⟨o, c⟩
   simp [Instr.sliceAt, Instr.slice, Instr.sliceBounds, Instr.sliceBound, asIntOf, al j, he W, p]
   split <;> rfl
theorem p4 {i j : Nat} {x0 : α} (h : (l.drop i)[j]? = some x0) : l[i + j]? = some x0 := by rwa [bY] at h
theorem xX {t e : TypeId} {x : Operand} {u : Value} {i : Nat} (j : P.underlying t = some (.slice e)) (m : gz E x = u) (hu : xi k v i u) (h : gM e' enc k v l R) : iu P E ⟨d, .call ⟨.builtin .len, #[x], #[t]⟩, ty, pos, af, g⟩ W (.int .i64 ((l.length - i : Nat) : Int)) W := by
 obtain ⟨A, n, c, A', o, h1, b, p, _⟩ := hu
 subst b
 have : n = l.length := by
  rcases h with ⟨rfl, rfl, rfl⟩ | ⟨g', cap, a, rfl, rfl, _⟩
  ·cases h1; rfl
  ·cases h1; rfl
 subst this
 exact vx j m
theorem oY {t e : TypeId} {x m : Operand} {O : IntKind} {i : Int} {x0 : α} {u : Value} {o : Nat} (L : P.underlying t = some (.slice e)) (he : ∀ w, (sizeOf e).run P w = .ok k w) (M : gz E x = u) (J : gz E m = .int O i) (h : gM e' enc k v l R) (hu : xi k v o u) (y : 0 ≤ i) (K : (l.drop o)[i.toNat]? = some x0) :
  ∃ p, um R k p (o + i.toNat) ∧ ∀ W, iu P E ⟨d, .indexAddr t x m, ty, pos, af, g⟩ W p W := by
 have a := p4 K
 have j : o + i.toNat < l.length := (aw.1 a).1
 rcases h with ⟨rfl, rfl, rfl⟩ | ⟨g', cap, q, rfl, rfl, h1, T, U, Y⟩
 ·simp at j
 obtain ⟨A, n, c, A', Q, r, rfl, Z, G⟩ := hu
 cases r
 obtain ⟨b, oo, s, rfl⟩ := G (by omega)
 cases s
 refine ⟨.pointer (some ⟨g', (o + i.toNat) * k, none⟩), ⟨_, _, rfl, rfl⟩, fun W => ?_⟩
 show (do pure (.value (← Instr.indexAt t (gz E x) (gz E m))) : Sem Next).run P W = _
 rw [M, J]
 have I : 0 ≤ i ∧ i < ((l.length - o : Nat) : Int) := ⟨y, by omega⟩
 simp [Instr.indexAt, asIntOf, al L, he W, I, bW, aW]
theorem xE (ys : List Value) (m : Nat) : (Builtin.zeroCells ys.toArray m).toList = (List.replicate m ys).flatten := by
 unfold Builtin.zeroCells
 simp only [Array.toList_map, Array.toList_range, cg]
 rcases cu ys.length with a | a
 ·have : ys = [] := bu.1 a
  subst this
  simp
 apply cy
 intro q
 by_cases c : q < m * ys.length
 ·have h1 : q / ys.length < m := (Nat.div_lt_iff_lt_mul a).2 c
  have b : q % ys.length < ys.length := Nat.mod_lt _ a
  have := pZ (enc := fun _ : Unit => ys) (fun _ => rfl) (List.replicate m ()) (q / ys.length) () (by simp [h1]) (q % ys.length) ys[q % ys.length] (by simp [b])
  rw [Nat.div_add_mod' q ys.length] at this
  rw [List.map_replicate] at this
  rw [this]
  simp [c, b]
 ·rw [cA (by simp; omega), cA (by simp; omega)]
theorem Ae {K : Value → World → Prop} (z : α) (X : List (Nat × Obj)) {Y : List (Nat × Obj)} {t e : TypeId} {x : Operand} {u U : Value} {i : Nat} (p : ST dd F w W μ (X ++ (R ++ Y))) (h : gM e' enc k v l R) (hk : ∀ x, (enc x).length = k) (h1 : ∀ x, ∀ u ∈ enc x, u.oneCell' = true) (M : P.underlying t = some (.slice e)) (hz : ∀ w, (zeroValue e).run P w = .ok U w) (hu : xi k v i u) (hc : U.cells = (enc z).toArray) (hx : gz E x = u) (J : ∀ W' R', ST dd F w W' μ (X ++ (R' ++ Y)) → gM e' enc k v (lC l i z) R' → K (.tuple #[]) W') : jh P E ⟨d, .call ⟨.builtin .clear, #[x], #[t]⟩, ty, pos, af, g⟩ W K := by
 have j : ∀ (W' : World), (Builtin.clear_ #[t] ty #[u]).run P W = .ok (.tuple #[]) W' → (execOp (gz E) ⟨d, .call ⟨.builtin .clear, #[x], #[t]⟩, ty, pos, af, g⟩).run P W = .ok (.value (.tuple #[])) W' := by
  intro W' hV
  show (do let d ← resolve (gz E) ⟨.builtin .clear, #[x], #[t]⟩ ty; invoke d.target d.args : Sem Next).run P W = _
  simp [resolve, invoke, builtin, hx, hV]
 obtain ⟨A, n, c, A', c', Z, rfl, s, h8⟩ := hu
 rcases h with ⟨rfl, rfl, rfl⟩ | ⟨g', cap, a, rfl, rfl, T, q2, G, q4⟩
 ·cases Z
  refine .inl ⟨_, W, j W ?_, J W [] p (by simpa [lC] using gM.nil e' enc k)⟩
  simp only [Builtin.clear_, Nat.zero_sub]
  cases A' <;> simp [al M]
 ·cases Z
  by_cases hi : i < l.length
  ·obtain ⟨b, o, e2, rfl⟩ := h8 hi
   cases e2
   have Q : ∀ m, (Builtin.zeroCells U.cells m).toList = (List.replicate m (enc z)).flatten := by
    intro m
    rw [hc]; exact xE _ _
   have hb := (p.box g' (.cells a e' (0, 0)) (by simp)).1
   have hle : i * k + (l.length - i) * k = l.length * k := by rw [← aW]; congr 1; omega
   have hlen : l.length * k ≤ c * k := aS _ T
   have q : ((List.replicate (l.length - i) (enc z)).flatten).length = (l.length - i) * k := by simp [hk]
   have r : ∀ v ∈ (List.replicate (l.length - i) (enc z)).flatten, v.oneCell' = true := by
    intro v y
    obtain ⟨ys, O, y⟩ := fS.1 y
    rw [(List.mem_replicate.1 O).2] at y
    exact h1 z v y
   have hs := fw (P := P) g' (i * k) e' ((List.replicate (l.length - i) (enc z)).flatten) 0 a W hb (by rw [q, G]; omega) r
   rw [Nat.add_zero, q, hle] at hs
   refine .inl ⟨_, W.setRow g' (a.toList.take (i * k) ++ (List.replicate (l.length - i) (enc z)).flatten ++ a.toList.drop (l.length * k)).toArray, j _ ?_, J _ [(g', .cells (a.toList.take (i * k) ++ (List.replicate (l.length - i) (enc z)).flatten ++ a.toList.drop (l.length * k)).toArray e' (0, 0))] (p.store _) (.inr ⟨g', c, _, by rw [oL _ _ _ s], rfl, by rw [oL _ _ _ s]; exact T, q2, ?_, ?_⟩)⟩
   ·have hn : l.length - i = (l.length - i - 1) + 1 := by omega
    simp only [Builtin.clear_]
    rw [hn]
    simp only [al M, aQ, aH, dw, dX, hz, de]
    rw [← hn, Q, hs]
    simp
   ·have I : a.toList.length = c * k := by simpa using G
    rw [cg, an, an, bH, er, q, I, bP (by omega)]
    omega
   ·rw [oL _ _ _ s, lC, aO, dm, u4 hk l i s, ← q4, eb, bP (by omega), List.map_replicate]
    have I : a.toList.length = c * k := by simpa using G
    have e3 : (a.toList.take (i * k) ++ (List.replicate (l.length - i) (enc z)).flatten).length = l.length * k := by rw [an, bH, q, I, bP (by omega)]; omega
    show List.take (l.length * k) (a.toList.take (i * k) ++ (List.replicate (l.length - i) (enc z)).flatten ++ a.toList.drop (l.length * k)) = _
    rw [dq, bM (by rw [e3]; exact aJ _), e3, Nat.sub_self]
    simp
  ·have L : i = l.length := by omega
   subst L
   refine .inl ⟨_, W, j W ?_, J W _ p ?_⟩
   ·simp only [Builtin.clear_, Nat.sub_self]
    cases A' <;> simp [al M]
   ·simp only [lC, List.take_length, Nat.sub_self, List.replicate_zero, aU]
    exact .inr ⟨g', c, a, rfl, rfl, T, q2, G, q4⟩
end
end Go.Proofs.YtbnbdigcbldfhaaGreat
namespace Go.Proofs.YtbnbdigcbldfhaaGreat
open Go.RowKit
variable {dd : Bool}
section
variable {P : Program} {E : Nat → Value} {W : World} {d : Option Nat} {ty : TypeId} {pos : String} {af : Array Edge} {g : Option (Nat × Bool)}
 {F : Nat → Prop} {w : World} {μ : gS} {L : List (Nat × Obj)}
theorem AS {K : Value → World → Prop} {f : FuncId} {fv : Operand} {ax : Array Operand} {ats : Array TypeId} {args : List Value} {v : Value} (c : gz E fv = .func (.func f) #[] #[]) (b : ax.map (gz E) ++ (#[] : Array Value) = args.toArray) (i : (callFunc f args.toArray).run P W = .ok (.value v) W) (h : K v W) : jh P E ⟨d, .call ⟨.value fv, ax, ats⟩, ty, pos, af, g⟩ W K := by
 have a : ax.map (gz E) = args.toArray := by simpa using b
 refine .inl ⟨v, W, ?_, h⟩
 show (do let d ← resolve (gz E) ⟨.value fv, ax, ats⟩ ty; invoke d.target d.args : Sem Next).run P W = _
 simp only [resolve, c, Deferred.ofValue, aQ, bq, aH, invoke]
 rw [a]
 simpa using i
def pB (s : ByteArray) (c : Int) : Int := Lib.indexByte s.data.toList c.toNat.toUInt8
def nF (a b : ByteArray) : Int := Lib.compareBytes a.data.toList b.data.toList
def pC (l : List Int) : List UInt8 := l.map fun x => x.toNat.toUInt8
def ri (a b : List Int) : Int := Lib.compareBytes (pC a) (pC b)
theorem xp {f : FuncId} {fn : Func} (d : P.funcs[f]? = some fn) (a : (fn.name == "runtime.NumGoroutine") = false) (b : fn.body.isNone = true) (g : Extern.findNext fn = none) (he : Extern.find fn = some Extern.BytealgIndexByte.indexByte) (s : ByteArray) (c : Int) (w : World) :
  (callFunc f [Value.string s, .int .u8 c].toArray).run P w = .ok (.value (.int .i64 (pB s c))) w := by
 rw [dP d a b g he]
 rw [Lib.run_indexByteString]
 rfl
theorem Ct {f : FuncId} {fn : Func} (g : P.funcs[f]? = some fn) (c : (fn.name == "runtime.NumGoroutine") = false) (d : fn.body.isNone = true) (h : Extern.findNext fn = none) (he : Extern.find fn = some Extern.BytealgCompare.compare) (a b : ByteArray) (w : World) :
  (callFunc f [Value.string a, .string b].toArray).run P w = .ok (.value (.int .i64 (nF a b))) w := by
 rw [dP g c d h he]
 rw [Lib.run_compareString]
 rfl
theorem uw {v : Value} {l : List Int} (h : Sl (Pl (iV .u8)) 1 (hp W) v l) : (Extern.Bytes.bytesOf v).run P W = .ok ⟨(pC l).toArray⟩ W := by
 obtain ⟨A, c, rfl, o, p, i⟩ := h
 rcases cu l.length with a | a
 ·have : l = [] := bu.1 a
  subst this
  cases A <;> simp [Extern.Bytes.bytesOf, Extern.Bytes.loadBytes, pC] <;> rfl
 ·obtain ⟨b, off, cs, T, fr, rfl, k, m⟩ := i a
  have := Lib.run_loadBytesX (P := P) W l ⟨b, off, none⟩ .empty (fun j x n => by
   obtain ⟨ys, _, g, d⟩ := m j x n
   cases g
   rw [bW, dW W b (off + j) cs T fr k]
   have := d 0 (.int .u8 x) rfl
   simpa using this)
  simp only [Extern.Bytes.bytesOf]
  rw [this]
  congr 1
  apply fQ
  show (#[] : Array UInt8) ++ _ = _
  simp [Lib.bytesOf, pC]
theorem CP {f : FuncId} {fn : Func} (j : P.funcs[f]? = some fn) (c : (fn.name == "runtime.NumGoroutine") = false) (i : fn.body.isNone = true) (k : Extern.findNext fn = none) (he : Extern.find fn = some Extern.BytealgCompare.compare) {d g : Value} {a b : List Int} (h1 : Sl (Pl (iV .u8)) 1 (hp W) d a) (h : Sl (Pl (iV .u8)) 1 (hp W) g b) :
  (callFunc f [d, g].toArray).run P W = .ok (.value (.int .i64 (ri a b))) W := by
 rw [dP j c i k he]
 have : (Extern.BytealgCompare.compare [d, g].toArray).run P W = .ok (.int .i64 (ri a b)) W := by
  change Sem.run P (do pure (goInt (Extern.BytealgCompare.cmp (← Extern.Bytes.bytesOf d) (← Extern.Bytes.bytesOf g)))) W = _
  simp only [aQ, uw h1, uw h, bq, Result.andThen]
  rw [Lib.cmp_eq]
  rfl
 rw [this]
 rfl
theorem qY {fn : Fn} {caps : Array Operand} {cs : List Value} {v : Value} (a : caps.map (gz E) ++ (#[] : Array Value) = cs.toArray) (b : .func fn #[] cs.toArray = v) : iu P E ⟨d, .makeFunc fn #[] caps, ty, pos, af, g⟩ W v W := by
 have : caps.map (gz E) = cs.toArray := by simpa using a
 exact A5 (by rw [this]; simpa using b)
theorem ie.mono {f : FuncId} {args : List Value} {L0 : List (Nat × Obj)} {K K' : Value → List (Nat × Obj) → World → Prop} (h : ie dd P f args w L0 K) (hk : ∀ v L1 W', K v L1 W' → K' v L1 W') : ie dd P f args w L0 K' :=
 bf h (fun _ _ ⟨v, L1, h1, a, b⟩ => ⟨v, L1, h1, a, hk _ _ _ b⟩)
end
section
variable {α : Type}
def mn (cf : α × α → Option Int) (x y : α) : Bool := match cf (x, y) with
 | some c => decide (c < 0)
 | none => false
structure tE (cf : α × α → Option Int) (l : List α) : Prop where
 is : ∀ x ∈ l, ∀ y ∈ l, ∃ c, cf (x, y) = some c
 irrefl : ∀ x ∈ l, mn cf x x = false
 trans : ∀ x ∈ l, ∀ y ∈ l, ∀ z ∈ l, mn cf x y = true → mn cf y z = true → mn cf x z = true
 total : ∀ x ∈ l, ∀ y ∈ l, mn cf x y = false → mn cf y x = false → x = y
 short : l.length < 4611686018427387904
def lx (cf : α × α → Option Int) (l : List α) : List α := l.mergeSort fun x y => !mn cf y x
open Classical in
noncomputable def qx (cf : α × α → Option Int) (l : List α) : Option (List α) := if tE cf l then some (lx cf l) else none
theorem xh {cf : α × α → Option Int} {l r : List α} (h : qx cf l = some r) : tE cf l ∧ r = lx cf l := by
 unfold qx at h
 split at h
 ·rename_i a; cases h; exact ⟨a, rfl⟩
 ·cases h
theorem zI {cf : α × α → Option Int} {l : List α} (h : tE cf l) : qx cf l = some (lx cf l) := by
 unfold qx; rw [ak h]
def iJ (l : List ByteArray) : List ByteArray := l.mergeSort fun x y => !kw y x
def vy (l : List ByteArray) : Option (List ByteArray) := if l.length < 4611686018427387904 then some (iJ l) else none
end
end Go.Proofs.YtbnbdigcbldfhaaGreat
namespace Go.Proofs.YtbnbdigcbldfhaaGreat
open Go.RowKit
variable {dd : Bool}
def oy {κ γ : Type} (Q : Value → γ → List (Nat × Obj) → Prop) : List (κ × Value) → List (κ × γ) → List (Nat × Obj) → Prop
 | [], [], R => R = []
 | p :: a, q :: l, R => p.1 = q.1 ∧ ∃ R1 R2, R = R1 ++ R2 ∧ Q p.2 q.2 R1 ∧ oy Q a l R2
 | _, _, _ => False
def iX {κ γ : Type} (kenc : κ → Value) (Q : Value → γ → List (Nat × Obj) → Prop) (v : Value) (c : List (κ × Value)) (l : List (κ × γ)) (R : List (Nat × Obj)) : Prop :=
 ∃ a b, R = a ++ b ∧ gW kenc (fun x => x) v c a ∧ oy Q c l b
section
variable {κ γ : Type} {Q : Value → γ → List (Nat × Obj) → Prop} {beq : κ → κ → Bool} {kenc : κ → Value}
theorem oy.keys : ∀ {a : List (κ × Value)} {l : List (κ × γ)} {R : List (Nat × Obj)}, oy Q a l R → a.map (·.1) = l.map (·.1)
 | [], [], _, _ => rfl
 | [], _ :: _, _, h => h.elim
 | _ :: _, [], _, h => h.elim
 | p :: a, q :: l, R, h => by
  obtain ⟨h1, R1, R2, _, _, b⟩ := h
  simp [h1, oy.keys b]
theorem oy.find {a : List (κ × Value)} {l : List (κ × γ)} {R : List (Nat × Obj)} (h : oy Q a l R) (k : κ) : a.findIdx? (fun p => beq k p.1) = l.findIdx? (fun p => beq k p.1) := by
 have h1 : (a.map (·.1)).findIdx? (fun x => beq k x) = (l.map (·.1)).findIdx? (fun x => beq k x) := by rw [h.keys]
 rw [ec, ec] at h1
 exact h1
theorem oy.get : ∀ {b : List (κ × Value)} {l : List (κ × γ)} {R : List (Nat × Obj)}, oy Q b l R → ∀ (i : Nat) (k : κ) (x : γ), l[i]? = some (k, x) →
  ∃ v A R1 B, b[i]? = some (k, v) ∧ R = A ++ (R1 ++ B) ∧ Q v x R1 ∧ ∀ k2 v2 x2 R2, Q v2 x2 R2 → oy Q (b.set i (k2, v2)) (l.set i (k2, x2)) (A ++ (R2 ++ B))
 | [], [], _, _, i, k, x, a => by simp at a
 | [], _ :: _, _, h, _, _, _, _ => h.elim
 | _ :: _, [], _, h, _, _, _, _ => h.elim
 | p :: b, q :: l, R, h, 0, k, x, a => by
  obtain ⟨h1, R1, R2, rfl, c, d⟩ := h
  simp at a
  subst a
  refine ⟨p.2, [], R1, R2, by simp only [dX]; exact ap some (Prod.ext h1 rfl), rfl, c, fun k2 v2 x2 R2' g => ⟨rfl, R2', R2, rfl, g, d⟩⟩
 | p :: b, q :: l, R, h, i + 1, k, x, a => by
  obtain ⟨h1, R1, R2, rfl, c, d⟩ := h
  simp at a
  obtain ⟨v, A, R1', B, g1, rfl, g3, g4⟩ := oy.get d i k x a
  exact ⟨v, R1 ++ A, R1', B, by simpa using g1, by simp, g3, fun k2 v2 x2 R2' g => ⟨h1, R1, A ++ (R2' ++ B), by simp, c, g4 k2 v2 x2 R2' g⟩⟩
theorem oy.push : ∀ {b : List (κ × Value)} {l : List (κ × γ)} {R : List (Nat × Obj)}, oy Q b l R → ∀ (k : κ) {v : Value} {x : γ} {R1 : List (Nat × Obj)}, Q v x R1 → oy Q (b ++ [(k, v)]) (l ++ [(k, x)]) (R ++ R1)
 | [], [], _, h, k, v, x, R1, a => by
  have g : _ = [] := h
  subst g
  exact ⟨rfl, R1, [], by simp, a, rfl⟩
 | [], _ :: _, _, h, _, _, _, _, _ => h.elim
 | _ :: _, [], _, h, _, _, _, _, _ => h.elim
 | p :: b, q :: l, R, h, k, v, x, R1, a => by
  obtain ⟨h1, c, d, rfl, i, j⟩ := h
  exact ⟨h1, c, d ++ R1, by simp, i, oy.push j k a⟩
theorem iX.found {r : Value} {c : List (κ × Value)} {l : List (κ × γ)} {R : List (Nat × Obj)} (hk : ∀ {x y : κ}, beq x y = true → x = y) (h : iX kenc Q r c l R) {k : κ} {x : γ} (b : gV beq l k = some x) :
  ∃ v A R1 B, gV beq c k = some v ∧ R = A ++ (R1 ++ B) ∧ Q v x R1 ∧ (∀ x2 R2, Q v x2 R2 → iX kenc Q r c (iN beq l k x2) (A ++ (R2 ++ B))) := by
 obtain ⟨o, w, rfl, s, q⟩ := h
 rw [ph] at b
 cases d : l.findIdx? (fun p => beq k p.1) with
 | none => rw [d] at b; cases b
 | some i =>
  rw [d] at b
  obtain ⟨p, hp, t⟩ := kC d
  simp only [aa, hp, bA, dy] at b
  subst b
  have n := hk t
  obtain ⟨v, A, R1, B, g1, rfl, g3, g4⟩ := q.get i p.1 p.2 hp
  have g : c.findIdx? (fun p => beq k p.1) = some i := by rw [q.find k, d]
  refine ⟨v, o ++ A, R1, B, by rw [ph, g]; simp [g1], by simp, g3, fun x2 R2 u => ⟨o, A ++ (R2 ++ B), by simp, s, ?_⟩⟩
  have a := g4 k v x2 R2 u
  have e : c.set i (k, v) = c := by
   apply cy
   intro j
   rw [da]
   split
   ·rename_i m
    subst m
    rw [g1, n]
    simp [(aw.1 g1).1]
   ·rfl
  rw [e] at a
  rw [iN, d]
  exact a
theorem iX.Bu {g : Value} {c : List (κ × Value)} {l : List (κ × γ)} {R : List (Nat × Obj)} (h : iX kenc Q g c l R) {k : κ} (a : gV beq l k = none) : gV beq c k = none := by
 obtain ⟨j, m, rfl, n, d⟩ := h
 rw [ph] at a ⊢
 rw [d.find k]
 cases b : l.findIdx? (fun p => beq k p.1) with
 | none => rfl
 | some i =>
  rw [b] at a
  obtain ⟨p, hp, o⟩ := kC b
  simp [hp] at a
def lP (beq : κ → κ → Bool) (a : List (κ × Value)) (k : κ) (z : Value) : Value := (gV beq a k).getD z
variable {P : Program} {W : World} {kt : TypeId} {E : Nat → Value} {d : Option Nat} {ty : TypeId} {pos : String} {af : Array Edge} {g : Option (Nat × Bool)} {F : Nat → Prop} {w : World} {μ : gS} {L : List (Nat × Obj)}
theorem kU {t e : TypeId} {m x : Operand} {c z : Value} {a : List (κ × Value)} {l : List (κ × γ)} {R : List (Nat × Obj)} {k : κ} (K : jC P kt kenc beq) (q : P.underlying t = some (.map kt e)) (s : ∀ w, (zeroValue e).run P w = .ok z w) (hm : gz E m = c) (r : gz E x = kenc k) (n : iX kenc Q c a l R) (p : ∀ b o, (b, o) ∈ R → W.heap[b]? = some o) : iu P E ⟨d, .lookup t m x false, ty, pos, af, g⟩ W (lP beq a k z) W := by
 obtain ⟨u, v, rfl, i, y⟩ := n
 have j := yZ (d := d) (ty := ty) (pos := pos) (af := af) (g := g) K q s hm r (i.at (μ := hp W) (fun b o h => p b o (aR _ h)))
 simpa [lP] using j
variable {κ2 β : Type} {kenc2 : κ2 → Value} {vf : β → Value} {beq2 : κ2 → κ2 → Bool} {kt2 : TypeId}
theorem iX.vl {i : Value} {c : List (κ × Value)} {l : List (κ × List (κ2 × β))} {R : List (Nat × Obj)} (hk : ∀ {x y : κ}, beq x y = true → x = y) (h : iX kenc (gW kenc2 vf) i c l R) (k : κ) {μ : gS} (d : ∀ b o, (b, o) ∈ R → μ b = some o) :
  kL kenc2 vf μ (lP beq c k (.map none)) ((gV beq l k).getD []) := by
 cases a : gV beq l k with
 | none => rw [lP, h.Bu a]; exact .inl ⟨rfl, rfl⟩
 | some x =>
  obtain ⟨v, A, R1, B, g1, rfl, g3, _⟩ := h.found hk a
  rw [lP, g1]
  exact g3.at (fun b o g => d b o (by simp [g]))
theorem iX.isNil {c : Value} {b : List (κ × Value)} {l : List (κ × List (κ2 × β))} {R : List (Nat × Obj)} (hk : ∀ {x y : κ}, beq x y = true → x = y) (h : iX kenc (gW kenc2 vf) c b l R) (k : κ) :
  ∃ r, lP beq b k (.map none) = .map r ∧ r.isNone = (gV beq l k).isNone := by
 cases a : gV beq l k with
 | none => rw [lP, h.Bu a]; exact ⟨none, rfl, rfl⟩
 | some x =>
  obtain ⟨v, A, R1, B, g1, rfl, g3, _⟩ := h.found hk a
  obtain ⟨m, es, clock, rfl, _⟩ := g3
  rw [lP, g1]
  exact ⟨_, rfl, rfl⟩
def wD {κ κ2 β : Type} (beq : κ → κ → Bool) (beq2 : κ2 → κ2 → Bool) (l : List (κ × List (κ2 × β))) (k : κ) (k2 : κ2) (x : β) : Option (List (κ × List (κ2 × β))) := (gV beq l k).map fun a => iN beq l k (iN beq2 a k2 x)
def wG {κ γ : Type} (beq : κ → κ → Bool) (l : List (κ × γ)) (k : κ) (x : γ) : Option (List (κ × γ)) := if (gV beq l k).isNone then some (iN beq l k x) else none
theorem Cg {o : Value → World → Prop} (X : List (Nat × Obj)) {Y R : List (Nat × Obj)} {t e : TypeId} {m x y : Operand} {q : Value} {n : List (κ × Value)} {l p : List (κ × List (κ2 × β))} {k : κ} {k2 : κ2} {v : β} (hk : ∀ {x y : κ}, beq x y = true → x = y) (K : jC P kt2 kenc2 beq2) (G : P.underlying t = some (.map kt2 e)) (c : ST dd F w W μ (X ++ (R ++ Y))) (h : iX kenc (gW kenc2 vf) q n l R) (hm : gz E m = lP beq n k (.map none)) (I : gz E x = kenc2 k2) (J : gz E y = vf v) (b : wD beq beq2 l k k2 v = some p) (s : ∀ W' R', ST dd F w W' μ (X ++ (R' ++ Y)) → iX kenc (gW kenc2 vf) q n p R' → o undef W') : jh P E ⟨d, .mapUpdate t m x y, ty, pos, af, g⟩ W o := by
 unfold wD at b
 cases i : gV beq l k with
 | none => rw [i] at b; cases b
 | some L =>
  rw [i] at b
  cases b
  obtain ⟨u, A, R1, B, g1, rfl, g3, g4⟩ := h.found hk i
  have j : gz E m = u := by rw [hm, lP, g1]; rfl
  have a : ST dd F w W μ ((X ++ A) ++ (R1 ++ (B ++ Y))) := by simpa using c
  refine qV (X ++ A) K G a g3 j I J (fun W' R' h1 r => s W' (A ++ (R' ++ B)) ?_ (g4 _ _ r))
  simpa using h1
theorem BU {v : Value → World → Prop} (X : List (Nat × Obj)) {Y R R2 : List (Nat × Obj)} {t e : TypeId} {m x y : Operand} {s : Value} {r : List (κ × Value)} {l I : List (κ × γ)} {k : κ} {u : Value} {z : γ} (K : jC P kt kenc beq) (ht : P.underlying t = some (.map kt e)) (o : ST dd F w W μ (X ++ (R ++ (R2 ++ Y)))) (h : iX kenc Q s r l R) (hm : gz E m = s) (hx : gz E x = kenc k) (hy : gz E y = u) (Z : Q u z R2) (b : wG beq l k z = some I) (T : ∀ W' R', ST dd F w W' μ (X ++ (R' ++ Y)) → iX kenc Q s (iN beq r k u) I R' → v undef W') : jh P E ⟨d, .mapUpdate t m x y, ty, pos, af, g⟩ W v := by
 unfold wG at b
 cases j : gV beq l k with
 | some l2 => rw [j] at b; cases b
 | none =>
  rw [j] at b
  simp only [Option.isNone_none, aY, dy] at b
  subst b
  have U := h.Bu j
  obtain ⟨L, n, rfl, M, O⟩ := h
  have c : ST dd F w W μ (X ++ (L ++ (n ++ (R2 ++ Y)))) := by simpa using o
  refine qV X K ht c M hm hx hy (fun W' R' g1 g2 => T W' (R' ++ (n ++ R2)) (by simpa using g1) ⟨R', n ++ R2, rfl, g2, ?_⟩)
  have A : ∀ {J : Type} (q : List (κ × J)) (y : J), gV beq q k = none → iN beq q k y = q ++ [(k, y)] := fun q y a => by
   rw [ph] at a
   rw [iN]
   cases G : q.findIdx? (fun p => beq k p.1) with
   | none => rfl
   | some i =>
    obtain ⟨p, hp, _⟩ := kC G
    rw [G] at a
    simp [hp] at a
  rw [A r u U, A l z j]
  exact O.push k Z
end
end Go.Proofs.YtbnbdigcbldfhaaGreat
namespace Go.Proofs.YtbnbdigcbldfhaaGreat
open Go.RowKit
variable {dd : Bool}
section
variable {κ γ : Type} {Q : Value → γ → List (Nat × Obj) → Prop} {beq : κ → κ → Bool} {kenc : κ → Value}
theorem kk {a : Type} {l : List (κ × a)} {k : κ} {i : Nat} (h : l.findIdx? (fun p => beq k p.1) = some i) (x : a) : iN beq l k x = l.set i (k, x) := by rw [iN, h]
theorem mW {a : Type} {l : List (κ × a)} {k : κ} (h : l.findIdx? (fun p => beq k p.1) = none) (x : a) : iN beq l k x = l ++ [(k, x)] := by rw [iN, h]
theorem sD {a : Type} {l : List (κ × a)} {k : κ} (h : l.findIdx? (fun p => beq k p.1) = none) : gV beq l k = none := by rw [ph, h]; rfl
theorem qv {a : Type} {l : List (κ × a)} {k : κ} {i : Nat} {p : κ × a} (h : l.findIdx? (fun p => beq k p.1) = some i) (hp : l[i]? = some p) : gV beq l k = some p.2 := by rw [ph, h]; simp [hp]
def Bf (beq : κ → κ → Bool) (kenc : κ → Value) (Q : Value → γ → List (Nat × Obj) → Prop) (c : Value) (b : List (κ × Value)) (l : List (κ × γ)) (k : κ) (R : List (Nat × Obj)) : Prop :=
 ∃ a A B, R = a ++ (A ++ B) ∧ gW kenc (fun x => x) c b a ∧ ∀ v x R1, Q v x R1 → oy Q (iN beq b k v) (iN beq l k x) (A ++ (R1 ++ B))
theorem iX.open (hk : ∀ {x y : κ}, beq x y = true → x = y) {q z : Value} {x0 : γ} (j : Q z x0 []) {m : List (κ × Value)} {l : List (κ × γ)} {R : List (Nat × Obj)} (h : iX kenc Q q m l R) (k : κ) :
  ∃ R' R1, R.Perm (R' ++ R1) ∧ Q (lP beq m k z) ((gV beq l k).getD x0) R1 ∧ Bf beq kenc Q q m l k R' := by
 obtain ⟨c, n, rfl, o, d⟩ := h
 have b := d.find (beq := beq) k
 cases a : l.findIdx? (fun p => beq k p.1) with
 | none =>
  rw [a] at b
  refine ⟨c ++ n, [], by simp, ?_, c, n, [], by simp, o, fun v x R1 g => ?_⟩
  ·rw [lP, sD a, sD b]; exact j
  ·rw [mW a, mW b]; simpa using d.push k g
 | some i =>
  rw [a] at b
  obtain ⟨p, hp, r⟩ := kC a
  have s := hk r
  obtain ⟨v, A, R1, B, g1, rfl, g3, g4⟩ := d.get i p.1 p.2 hp
  refine ⟨c ++ (A ++ B), R1, ?_, ?_, c, A, B, rfl, o, fun v2 x2 R2 g => ?_⟩
  ·rw [ar, ar]
   refine aV _ (aV _ cC)
  ·rw [lP, qv a hp, qv b g1]; exact g3
  ·rw [kk a, kk b]; exact g4 k v2 x2 R2 g
variable {P : Program} {W : World} {kt : TypeId} {E : Nat → Value} {d : Option Nat} {ty : TypeId} {pos : String} {af : Array Edge} {g : Option (Nat × Bool)} {F : Nat → Prop} {w : World} {μ : gS} {L : List (Nat × Obj)}
theorem EK {i : Value → World → Prop} (X : List (Nat × Obj)) {Y R R1 : List (Nat × Obj)} {t e : TypeId} {m x y : Operand} {c : Value} {j : List (κ × Value)} {l : List (κ × γ)} {k : κ} {u : Value} {z : γ} (K : jC P kt kenc beq) (s : P.underlying t = some (.map kt e)) (b : ST dd F w W μ (X ++ (R ++ (R1 ++ Y)))) (h : Bf beq kenc Q c j l k R) (hm : gz E m = c) (v : gz E x = kenc k) (G : gz E y = u) (r : Q u z R1) (q : ∀ W' R', ST dd F w W' μ (X ++ (R' ++ Y)) → iX kenc Q c (iN beq j k u) (iN beq l k z) R' → i undef W') : jh P E ⟨d, .mapUpdate t m x y, ty, pos, af, g⟩ W i := by
 obtain ⟨n, A, B, rfl, o, p⟩ := h
 have a : ST dd F w W μ (X ++ (n ++ (A ++ (B ++ (R1 ++ Y))))) := by simpa using b
 refine qV X K s a o hm v G (fun W' R' g1 g2 => q W' (R' ++ (A ++ (R1 ++ B))) ?_ ⟨R', A ++ (R1 ++ B), rfl, g2, p u z R1 r⟩)
 refine g1.perm ?_
 simp only [ar]
 refine aV _ (aV _ (aV _ ?_))
 rw [← ar, ← ar]
 exact ed _ cC
def yH (beq : κ → κ → Bool) (kenc : κ → Value) (Q : Value → γ → List (Nat × Obj) → Prop) (b : Value) (l : List (κ × γ)) (k : κ) (st : Nat) (R : List (Nat × Obj)) : Prop :=
 ∃ m es clock a A B i e, b = .map (some m) ∧ R = (m, .map es clock) :: (A ++ B) ∧ mo kenc (fun x => x) a es clock ∧ es[i]? = some e ∧ e.born = st ∧ a.findIdx? (fun p => beq k p.1) = some i ∧
  ∀ v x R1, Q v x R1 → oy Q (iN beq a k v) (iN beq l k x) (A ++ (R1 ++ B))
theorem uF {g : Type} (hk : ∀ x : κ, beq x x = true) (d : List (κ × g)) (k : κ) (a b : g) : iN beq (iN beq d k a) k b = iN beq d k b := by
 cases c : d.findIdx? (fun p => beq k p.1) with
 | none =>
  have h1 : (d ++ [(k, a)]).findIdx? (fun p => beq k p.1) = some d.length := by
   rw [df, c]
   simp [cv, hk]
  rw [mW c, mW c, kk h1]
  simp
 | some i =>
  obtain ⟨p, hp, n⟩ := kC c
  have h1 : (d.set i (k, a)).findIdx? (fun p => beq k p.1) = some i := by
   rw [bw] at c ⊢
   obtain ⟨h1, m, h⟩ := c
   refine ⟨by simpa using h1, by simp [hk], fun j l => ?_⟩
   rw [dQ (by omega)]
   exact h j l
  rw [kk c, kk c, kk h1]
  simp
end
end Go.Proofs.YtbnbdigcbldfhaaGreat
namespace Go.Proofs.YtbnbdigcbldfhaaGreat
open Go.RowKit
variable {dd : Bool}
section
variable {κ γ : Type} {Q : Value → γ → List (Nat × Obj) → Prop} {beq : κ → κ → Bool} {kenc : κ → Value}
variable {P : Program} {W : World} {kt : TypeId} {E : Nat → Value} {d : Option Nat} {ty : TypeId} {pos : String} {af : Array Edge} {g : Option (Nat × Bool)} {F : Nat → Prop} {w : World} {μ : gS} {L : List (Nat × Obj)}
theorem qy {es : Array MapEntry} {i : Nat} {f b : MapEntry → MapEntry} (h : ∀ e, es[i]? = some e → f e = b e) : es.modify i f = es.modify i b := by
 apply Array.ext_getElem?
 intro j
 rw [bV, bV]
 split
 ·rename_i a
  subst a
  cases he : es[i]? with
  | none => rfl
  | some e => simp [h e he]
 ·rfl
theorem mo.val {b : List (κ × Value)} {es : Array MapEntry} {clock : Nat} (h : mo kenc (fun x => x) b es clock) {i : Nat} {e : MapEntry} (he : es[i]? = some e) : ∃ p, b[i]? = some p ∧ e.key = kenc p.1 ∧ e.val = p.2 := by
 have a := ap (fun q => q[i]?) h.qX
 simp only [bX, bd, he, bA] at a
 cases hp : b[i]? with
 | none => rw [hp] at a; cases a
 | some p =>
  rw [hp] at a
  simp only [bA, dy, ew] at a
  exact ⟨p, rfl, a.1, a.2⟩
theorem AV {Kk : Value → World → Prop} (X : List (Nat × Obj)) {Y R : List (Nat × Obj)} {t e : TypeId} {m x : Operand} {mv z : Value} {x0 : γ} {lv : List (κ × Value)} {l : List (κ × γ)} {k : κ} (hk : ∀ {x y : κ}, beq x y = true ↔ x = y) (K : jC P kt kenc beq) (ht : P.underlying t = some (.map kt e)) (hz : ∀ w, (zeroValue e).run P w = .ok z w) (ad : Q z x0 []) (O : ST dd F w W μ (X ++ (R ++ Y))) (h : iX kenc Q mv lv l R) (hm : gz E m = mv) (hx : gz E x = kenc k) (hK : ∀ W' v st R' R1, ST dd F w W' μ (X ++ (R' ++ (R1 ++ Y))) → Q v ((gV beq l k).getD x0) R1 → yH beq kenc Q mv l k st R' → Kk (.tuple #[v, .int .i64 (st : Nat)]) W') : jh P E ⟨d, .mapEntry t m x, ty, pos, af, g⟩ W Kk := by
 obtain ⟨Rm, Rv, rfl, ⟨n, es, clock, rfl, rfl, o⟩, M⟩ := h
 have hb : W.heap[n]? = some (.map es clock) := (O.box n (.map es clock) (by simp)).1
 have h5 : (getObj n : Sem Obj).run P W = .ok (.map es clock) W := by simp [getObj, Sem.run, hb]
 have J := K.find k _ _ o.keys W
 rw [o.get k] at J
 have u := M.find (beq := beq) k
 have s : ∀ W' v, (Instr.mapEntry t (.map (some n)) (kenc k)).run P W = .ok v W' → (execOp (gz E) ⟨d, .mapEntry t m x, ty, pos, af, g⟩).run P W = .ok (.value v) W' := by
  intro W' v hr
  show (do pure (.value (← Instr.mapEntry t (gz E m) (gz E x))) : Sem Next).run P W = _
  rw [hm, hx]
  simp [hr]
 have r : ST dd F w W μ (X ++ (n, .map es clock) :: (Rv ++ Y)) := by simpa using O
 cases b : lv.findIdx? (fun p => beq k p.1) with
 | none =>
  rw [b] at J u
  have a := o.put (beq := beq) k z
  rw [b] at a
  refine .inl ⟨_, ChangeMaps.setBlock W n (.map (es.push { key := kenc k, val := z, born := clock }) (clock + 1)), s _ (.tuple #[z, .int .i64 (clock : Nat)]) ?_, hK _ z clock ((n, .map (es.push { key := kenc k, val := z, born := clock }) (clock + 1)) :: (Rv ++ [])) [] ?_ ?_ ?_⟩
  ·simp [Instr.mapEntry, al ht, h5, K.check, J, nB hb, hz _, goInt]
  ·have := r.setBlock (.map (es.push { key := kenc k, val := z, born := clock }) (clock + 1))
   simpa using this
  ·rw [sD u.symm]; exact ad
  ·refine ⟨n, _, _, lv ++ [(k, z)], Rv, [], es.size, { key := kenc k, val := z, born := clock }, rfl, rfl, a, by simp, rfl, ?_, fun v x R1 hq => ?_⟩
   ·rw [df, b]
    have a8 := o.length
    simp [cv, hk, a8]
   ·rw [← mW b, uF (fun x => hk.2 rfl), mW b, mW u.symm]
    simpa using M.push k hq
 | some i =>
  rw [b] at J u
  obtain ⟨p, hp, ab⟩ := kC b
  obtain ⟨q, a7, T⟩ := kC u.symm
  have av := hk.1 T
  obtain ⟨v, A, R1, B, g1, rfl, g3, g4⟩ := M.get i q.1 q.2 a7
  have a6 : p.2 = v := by rw [g1] at hp; cases hp; rfl
  have a8 := o.length
  have ao : i < lv.length := (aw.1 hp).1
  obtain ⟨L, c⟩ : ∃ L, es[i]? = some L := ⟨es[i], cW (by omega)⟩
  obtain ⟨p', a1, G, I⟩ := o.val c
  rw [hp] at a1
  cases a1
  simp only [aa, hp, bA] at J
  have a := o.put (beq := beq) k v
  rw [b] at a
  have U : ((es[i]?).map (·.key)).getD (kenc k) = kenc k := by
   rw [c]
   simp only [bA, dH, G]
   exact K.eq k p.1 ab
  have Z : es.modify i (fun e => { e with key := kenc k }) = es.modify i (fun e => { e with key := kenc k, val := v }) := qy fun e he => by
   rw [c] at he; cases he
   rw [← a6, ← I]
  refine .inl ⟨_, ChangeMaps.setBlock W n (.map (es.modify i fun e => { e with key := kenc k, val := v }) clock), s _ (.tuple #[v, .int .i64 (L.born : Nat)]) ?_, hK _ v L.born ((n, .map (es.modify i fun e => { e with key := kenc k, val := v }) clock) :: (A ++ B)) R1 ?_ ?_ ?_⟩
  ·simp only [Instr.mapEntry, aQ, al ht, h5, K.check, J, aH, U, Instr.keyThatStays, K.bits, aY, bq]
   rw [nB hb, Z]
   simp [c, goInt, a6]
  ·have := r.setBlock (.map (es.modify i fun e => { e with key := kenc k, val := v }) clock)
   refine this.perm ?_
   simp only [ar, bT]
   refine aV _ (List.Perm.cons _ (aV _ ?_))
   rw [← ar, ← ar]
   exact ed _ cC
  ·rw [qv u.symm a7]; exact g3
  ·refine ⟨n, _, _, lv.set i (k, v), A, B, i, { L with key := kenc k, val := v }, rfl, rfl, a, ?_, rfl, ?_, fun v2 x2 R2 hq => ?_⟩
   ·rw [bV, ak rfl, c]; rfl
   ·rw [bw] at b ⊢
    obtain ⟨h1, o, M⟩ := b
    refine ⟨by simpa using h1, by simp [hk], fun j hj => ?_⟩
    rw [dQ (by omega)]
    exact M j hj
   ·rw [← kk b, uF (fun x => hk.2 rfl), kk b, kk u.symm]
    exact g4 k v2 x2 R2 hq
theorem xO {es : Array MapEntry} (h : es.toList.Pairwise (fun a b => a.born < b.born)) {i : Nat} {e : MapEntry} (he : es[i]? = some e) : es.findIdx? (fun a => (a.born : Int) == (e.born : Int)) = some i := by
 rw [Array.findIdx?_eq_some_iff_getElem]
 obtain ⟨d, c⟩ := bp.1 he
 refine ⟨d, by rw [c]; simp, fun j g => ?_⟩
 have := List.pairwise_iff_getElem.1 h j i (by simpa using Nat.lt_trans g d) (by simpa using d) g
 simp only [Array.getElem_toList] at this
 rw [c] at this
 simp
 omega
theorem zD {Z : Value → World → Prop} (X : List (Nat × Obj)) {Y R R1 : List (Nat × Obj)} {t e : TypeId} {m s y : Operand} {U u : Value} {z : γ} {l : List (κ × γ)} {k : κ} {st : Nat} (hk : ∀ {x y : κ}, beq x y = true ↔ x = y) (K : jC P kt kenc beq) (o : ST dd F w W μ (X ++ (R ++ (R1 ++ Y)))) (h : yH beq kenc Q U l k st R) (hm : gz E m = U) (hs : gz E s = .int .i64 (st : Nat)) (hy : gz E y = u) (hq : Q u z R1) (hK : ∀ W' T R', ST dd F w W' μ (X ++ (R' ++ Y)) → iX kenc Q U T (iN beq l k z) R' → Z undef W') : jh P E ⟨d, .entryStore t m s y, ty, pos, af, g⟩ W Z := by
 obtain ⟨b, es, clock, lv, A, B, i, en, rfl, rfl, J, j, c, M, h3⟩ := h
 have hb : W.heap[b]? = some (.map es clock) := (o.box b (.map es clock) (by simp)).1
 have h5 : (getObj b : Sem Obj).run P W = .ok (.map es clock) W := by simp [getObj, Sem.run, hb]
 obtain ⟨p, hp, L⟩ := kC M
 obtain ⟨p', I, n, O⟩ := J.val j
 rw [hp] at I
 cases I
 have a := J.put (beq := beq) k u
 rw [M] at a
 have G : es.modify i (fun e => { e with val := u }) = es.modify i (fun e => { e with key := kenc k, val := u }) := qy fun e he => by
  rw [j] at he; cases he
  have r : en.key = kenc k := by rw [n]; exact K.eq k p.1 L
  rw [← r]
 have v := xO J.born j
 rw [c] at v
 have q : ST dd F w W μ (X ++ (b, .map es clock) :: (A ++ (B ++ (R1 ++ Y)))) := by simpa using o
 refine .inr (.inl ⟨ChangeMaps.setBlock W b (.map (es.modify i fun e => { e with key := kenc k, val := u }) clock), ?_, hK _ (iN beq lv k u) ((b, .map (es.modify i fun e => { e with key := kenc k, val := u }) clock) :: (A ++ (R1 ++ B))) ?_ ⟨[(b, .map (es.modify i fun e => { e with key := kenc k, val := u }) clock)], A ++ (R1 ++ B), rfl, ⟨b, _, _, rfl, rfl, ?_⟩, h3 u z R1 hq⟩⟩)
 ·show (do Instr.entryStore t (gz E m) (gz E s) (gz E y); pure .skip : Sem Next).run P W = _
  rw [hm, hs, hy]
  simp only [Instr.entryStore, aQ, h5, aH, asInt, asIntOf, bq, v]
  rw [nB hb, G]
  rfl
 ·have := q.setBlock (.map (es.modify i fun e => { e with key := kenc k, val := u }) clock)
  refine this.perm ?_
  simp only [ar, bT]
  refine aV _ (List.Perm.cons _ (aV _ ?_))
  rw [← ar, ← ar]
  exact ed _ cC
 ·rw [kk M]; exact a
end
end Go.Proofs.YtbnbdigcbldfhaaGreat
namespace Go.Proofs.YtbnbdigcbldfhaaGreat
open Go.RowKit
variable {dd : Bool}
section
variable {κ γ : Type} {Q : Value → γ → List (Nat × Obj) → Prop} {beq : κ → κ → Bool} {kenc : κ → Value}
def iz (kenc : κ → Value) (Q : Value → γ → List (Nat × Obj) → Prop) (v : Value) (l : List (κ × γ)) (R : List (Nat × Obj)) : Prop := ∃ a, iX kenc Q v a l R
def ow (kenc : κ → Value) (Q : Value → γ → List (Nat × Obj) → Prop) (μ : gS) (v : Value) (l : List (κ × γ)) : Prop := ∃ a R, iX kenc Q v a l R ∧ ∀ b o, (b, o) ∈ R → μ b = some o
theorem iz.at {v : Value} {l : List (κ × γ)} {R : List (Nat × Obj)} {μ : gS} (h : iz kenc Q v l R) (a : ∀ b o, (b, o) ∈ R → μ b = some o) : ow kenc Q μ v l := let ⟨c, h⟩ := h; ⟨c, R, h, a⟩
theorem ow.mono {v : Value} {l : List (κ × γ)} {μ μ' : gS} (h : ow kenc Q μ v l) (d : gZ μ μ') : ow kenc Q μ' v l := let ⟨g, R, h, a⟩ := h; ⟨g, R, h, fun b o c => d _ _ (a b o c)⟩
theorem iX.form {v : Value} {a : List (κ × Value)} {l : List (κ × γ)} {R : List (Nat × Obj)} (h : iX kenc Q v a l R) : ∃ m, v = .map (some m) := let ⟨_, _, _, h, _⟩ := h; h.form
theorem iX.e {v : Value} {a : List (κ × Value)} {l : List (κ × γ)} {R : List (Nat × Obj)} (h : iX kenc Q v a l R) : iz kenc Q v l R := ⟨a, h⟩
theorem iz.form {v : Value} {l : List (κ × γ)} {R : List (Nat × Obj)} (h : iz kenc Q v l R) : ∃ m, v = .map (some m) := let ⟨_, h⟩ := h; h.form
theorem iz.new {v : Value} {R : List (Nat × Obj)} (h : gW (β := Value) kenc (fun x => x) v [] R) : iz kenc Q v [] R := ⟨[], R, [], (aU R).symm, h, rfl⟩
theorem iX.rowAt {α : Type} {e : TypeId} {enc : α → List Value} {n : Nat} {g : Value} {c : List (κ × Value)} {l : List (κ × List α)} {R : List (Nat × Obj)} (hk : ∀ {x y : κ}, beq x y = true → x = y) (h : iX kenc (gM e enc n) g c l R) (k : κ) :
  ∃ R1, gM e enc n (lP beq c k (.slice none 0 0)) ((gV beq l k).getD []) R1 ∧ ∀ b o, (b, o) ∈ R1 → (b, o) ∈ R := by
 cases a : gV beq l k with
 | none => refine ⟨[], ?_, fun b o h => by cases h⟩; rw [lP, h.Bu a]; exact .inl ⟨rfl, rfl, rfl⟩
 | some x =>
  obtain ⟨v, A, R1, B, g1, rfl, g3, _⟩ := h.found hk a
  refine ⟨R1, ?_, fun b o d => by simp [d]⟩
  rw [lP, g1]; exact g3
theorem gM.vd {α : Type} {e : TypeId} {enc : α → List Value} {k : Nat} {v : Value} {l : List α} {R : List (Nat × Obj)} (h : gM e enc k v l R) (hk : ∀ x, (enc x).length = k) : Sl (Pl enc) k (uI R) v l := by
 refine h.sl hk (fun b o a => ?_)
 rcases h with ⟨rfl, rfl, rfl⟩ | ⟨g, cap, c, rfl, rfl, _⟩
 ·cases a
 ·simp at a; obtain ⟨rfl, rfl⟩ := a; simp [uI]
end
theorem my.hp (W : World) : my (hp W) [] W := ⟨fun _ _ h => h, fun _ _ h => by cases h⟩
section
variable {P : Program} {W : World} {E : Nat → Value} {d : Option Nat} {ty : TypeId} {pos : String} {af : Array Edge} {g : Option (Nat × Bool)} {F : Nat → Prop} {w : World} {μ : gS} {L : List (Nat × Obj)}
theorem xj {t k e : TypeId} (dd : Nat) (b : P.underlying t = some (.map k e)) (a : Option Nat) (W : World) : (Op.equalIn (dd + 1) t (.map a) (.map none)).run P W = .ok a.isNone W := by
 cases a <;> simp [Op.equalIn, al b]
theorem xe {a m k e : TypeId} {x y : Operand} {r : Option Nat} {b : Bool} (i : P.underlying a = some (.map k e)) (j : gz E x = .map r) (l : gz E y = .map none) (h : r.isNone = b) :
  iu P E ⟨d, .binOp .eql a x y m, ty, pos, af, g⟩ W (.bool b) W := by
 subst h
 show (do let r ← (do eqGuard .eql a x y (gz E x) (gz E y); binOp .eql a (gz E x) (gz E y)); pure (.value r) : Sem Next).run P W = _
 rw [j, l]
 have c := xj 9999 i r W
 simp [eqGuard, binOp, Op.equal, show Op.maxDepth = 9999 + 1 from rfl, c]
theorem Ad {κ κ2 β : Type} {kenc : κ → Value} {kenc2 : κ2 → Value} {vf : β → Value} {beq : κ → κ → Bool} {b o kt e : TypeId} {x y : Operand} {n : Value} {a : List (κ × Value)} {l : List (κ × List (κ2 × β))} {R : List (Nat × Obj)} {k : κ} (hk : ∀ {x y : κ}, beq x y = true → x = y) (i : P.underlying b = some (.map kt e)) (h : iX kenc (gW kenc2 vf) n a l R) (j : gz E x = lP beq a k (.map none)) (m : gz E y = .map none) :
  iu P E ⟨d, .binOp .eql b x y o, ty, pos, af, g⟩ W (.bool (gV beq l k).isNone) W := by
 obtain ⟨r, h1, c⟩ := h.isNil hk k
 exact xe i (j.trans h1) m c
theorem tR {κ γ : Type} {b : Value → World → Prop} {t : TypeId} (kenc : κ → Value) (Q : Value → γ → List (Nat × Obj) → Prop) (a : ST dd F w W μ L) (h : ∀ W' v R, ST dd F w W' μ (R ++ L) → iz kenc Q v [] R → b v W') : jh P E ⟨d, .makeMap t none, ty, pos, af, g⟩ W b :=
 rk kenc (fun x : Value => x) a (fun W' v R h1 c => h W' v R h1 (iz.new c))
end
def kY {α : Type} (e : TypeId) (enc : α → List Value) (k : Nat) (v : Value) (l : List α) (R : List (Nat × Obj)) : Prop :=
 (v = .slice none 0 0 ∧ l = [] ∧ R = []) ∨
 ∃ g off cap a, v = .slice (some ⟨g, off, none⟩) l.length cap ∧ R = [(g, .cells a e (0, 0))] ∧ l.length ≤ cap ∧ cap ≤ maxLen ∧ off + cap * k ≤ a.size ∧ (a.toList.drop off).take (l.length * k) = (l.map enc).flatten
section
variable {α : Type} {e : TypeId} {enc : α → List Value} {k : Nat} {v : Value} {l : List α} {R : List (Nat × Obj)}
theorem kY.nil (e : TypeId) (enc : α → List Value) (k : Nat) : kY e enc k (.slice none 0 0) [] [] := .inl ⟨rfl, rfl, rfl⟩
theorem gM.Fp (h : gM e enc k v l R) : kY e enc k v l R := by
 rcases h with h | ⟨g, cap, a, h1, b, c, d, j, i⟩
 ·exact .inl h
 ·exact .inr ⟨g, 0, cap, a, h1, b, c, d, by omega, by simpa using i⟩
theorem kY.len (h : kY e enc k v l R) : l.length ≤ 9223372036854775807 := by
 rcases h with ⟨rfl, rfl, rfl⟩ | ⟨g, off, cap, a, rfl, rfl, h1, b, _⟩
 ·simp
 ·unfold maxLen at b; omega
theorem kY.form (h : kY e enc k v l R) : ∃ A c, v = .slice A l.length c := by
 rcases h with ⟨rfl, rfl, rfl⟩ | ⟨g, off, cap, a, rfl, rfl, _⟩
 ·exact ⟨_, _, rfl⟩
 ·exact ⟨_, _, rfl⟩
theorem kY.vd (h : kY e enc k v l R) (hk : ∀ x, (enc x).length = k) : Sl (Pl enc) k (uI R) v l := by
 rcases h with ⟨rfl, rfl, rfl⟩ | ⟨g, off, cap, a, rfl, rfl, h1, c, o, d⟩
 ·exact Sl.nil _ _ _
 ·refine ⟨_, cap, rfl, h1, c, fun _ => ⟨g, off, a, e, (0, 0), rfl, by simp [uI], fun i x m => ⟨enc x, hk x, rfl, fun j y n => ?_⟩⟩⟩
  have := pZ hk l i x m j y n
  rw [← d] at this
  have b : i * k + j < l.length * k := by
   have := (aw.1 this).1
   simp at this; omega
  rw [ck b, bY] at this
  simpa [dh] using this
variable {P : Program} {W : World} {E : Nat → Value} {d : Option Nat} {ty : TypeId} {pos : String} {af : Array Edge} {g : Option (Nat × Bool)} {F : Nat → Prop} {w : World} {μ : gS} {L : List (Nat × Obj)}
theorem C7 {x : Operand} {t a : TypeId} (b : P.underlying t = some (.slice a)) (i : gz E x = v) (h : kY e enc k v l R) : iu P E ⟨d, .call ⟨.builtin .len, #[x], #[t]⟩, ty, pos, af, g⟩ W (.int .i64 l.length) W := by
 obtain ⟨A, c, rfl⟩ := h.form
 exact vx b i
theorem Bm {t n : TypeId} {x j : Operand} {K : IntKind} {i : Int} (r : P.underlying t = some (.slice n)) (he : ∀ w, (sizeOf n).run P w = .ok k w) (s : gz E x = v) (p : gz E j = .int K i) (hk : ∀ x, (enc x).length = k) (h : kY e enc k v l R) (y : 0 ≤ i) (q : i ≤ l.length) :
  ∃ u, kY e enc k u (l.drop i.toNat) R ∧ ∀ W, iu P E ⟨d, .slice t x (some j) none none, ty, pos, af, g⟩ W u W := by
 rcases h with ⟨rfl, rfl, rfl⟩ | ⟨g', off, cap, b, rfl, rfl, h1, L, M, A⟩
 ·have : i = 0 := by simp at q; omega
  subst this
  refine ⟨.slice none 0 0, by simpa using kY.nil e enc k, fun W => ?_⟩
  show (do pure (.value (← Instr.sliceAt t (gz E x) (some (gz E j)) none none)) : Sem Next).run P W = _
  rw [s, p]
  simp [Instr.sliceAt, Instr.slice, Instr.sliceBounds, Instr.sliceBound, asIntOf, al r, he W]
 ·refine ⟨.slice (some (if cap = i.toNat then ⟨g', off, none⟩ else (Addr.add ⟨g', off, none⟩ (i.toNat * k)))) (l.length - i.toNat) (cap - i.toNat), .inr ?_, fun W => ?_⟩
  ·have a : (l.drop i.toNat).length = l.length - i.toNat := by simp
   have c : (l.map enc).flatten.drop (i.toNat * k) = ((l.drop i.toNat).map enc).flatten := by
    have G : l = l.take i.toNat ++ l.drop i.toNat := (List.take_append_drop _ _).symm
    have I : ((l.take i.toNat).map enc).flatten.length = i.toNat * k := by rw [lu hk, bH, bP (by omega)]
    conv => lhs; rw [G, aO, dm]
    rw [← I, List.drop_left]
   by_cases o : cap = i.toNat
   ·rw [ak o]
    have m : l.drop i.toNat = [] := List.drop_eq_nil_of_le (by omega)
    refine ⟨g', off, cap - i.toNat, b, by rw [m]; simp; omega, rfl, by rw [m]; simp, by omega, by have : (cap - i.toNat) * k ≤ cap * k := aS _ (by omega); omega, by rw [m]; simp⟩
   ·rw [ai o]
    refine ⟨g', off + i.toNat * k, cap - i.toNat, b, by rw [a, bW], rfl, by rw [a]; omega, by omega, ?_, ?_⟩
    ·have : i.toNat * k + (cap - i.toNat) * k = cap * k := by rw [← aW]; congr 1; omega
     omega
    ·rw [a, ← c, ← A, eU, List.drop_drop, Nat.sub_mul]
  ·show (do pure (.value (← Instr.sliceAt t (gz E x) (some (gz E j)) none none)) : Sem Next).run P W = _
   rw [s, p]
   have J : 0 ≤ i ∧ i ≤ (l.length : Int) := ⟨y, q⟩
   simp [Instr.sliceAt, Instr.slice, Instr.sliceBounds, Instr.sliceBound, asIntOf, al r, he W, J]
   split <;> rfl
theorem zW {K : Value → World → Prop} {t : TypeId} {a1 : Nat} {z vs : Value} {m r : List α} (X : List (Nat × Obj)) {Y : List (Nat × Obj)} {x y : Operand} {i : TypeInfo} (a6 : ST dd F w W μ (X ++ (R ++ Y))) (hk : ∀ x, (enc x).length = k) (b2 : 0 < k) (h1 : ∀ x, ∀ u ∈ enc x, u.oneCell' = true) (ht : P.underlying t = some (.slice e)) (hi : P.info? e = some i) (hz : i.zero = some z) (ab : z.cells.size = k) (Z : i.size = k) (a7 : i.bytes = a1) (hx : gz E x = v) (hy : gz E y = vs) (hR : kY e enc k v l R) (hs : Sl (Pl enc) k (hp W) vs m) (hb : je a1 l m = some r) (h : ∀ W' v' R', ST dd F w W' μ (X ++ (R' ++ Y)) → kY e enc k v' r R' → K v' W') : jh P E ⟨d, .call ⟨.builtin .append, #[x, y], #[t, t]⟩, ty, pos, af, g⟩ W K := by
 rcases hR with ⟨rfl, rfl, rfl⟩ | ⟨g', off, cap, p, rfl, rfl, h2, h3, h4, h5⟩
 ·exact wv X a6 hk b2 h1 ht hi hz ab Z a7 hx hy (gM.nil e enc k) hs hb (fun W' v' R' a b => h W' v' R' a b.Fp)
 unfold je at hb
 split at hb
 case isFalse => cases hb
 rename_i U
 cases hb
 have Q : ∀ (V : Value) (W' : World), (Builtin.append_ #[t, t] ty #[.slice (some ⟨g', off, none⟩) l.length cap, vs]).run P W = .ok V W' → (execOp (gz E) ⟨d, .call ⟨.builtin .append, #[x, y], #[t, t]⟩, ty, pos, af, g⟩).run P W = .ok (.value V) W' := by
  intro V W' hV
  show (do let d ← resolve (gz E) ⟨.builtin .append, #[x, y], #[t, t]⟩ ty; invoke d.target d.args : Sem Next).run P W = _
  simp [resolve, invoke, builtin, hx, hy, hV]
 obtain ⟨A, c, rfl, b5, b6, aE⟩ := hs
 have J : ST dd F w W μ (X ++ (g', .cells p e (0, 0)) :: Y) := by simpa using a6
 have hg : W.heap[g']? = some (.cells p e (0, 0)) := (J.box g' _ (by simp)).1
 have I := lu hk l
 have O : ∀ u ∈ (m.map enc).flatten, u.oneCell' = true := by
  intro u hu
  obtain ⟨ys, b4, b3⟩ := fS.1 hu
  obtain ⟨x, _, rfl⟩ := aK.1 b4
  exact h1 x u b3
 have G : Src P i.size t (.slice A m.length c) m.length ((m.map enc).flatten) W := by
  rw [Z]
  rcases cu m.length with h0 | h0
  ·have hm : m = [] := bL h0
   subst hm
   cases A with
   | none => exact Src.ofNil W ht c
   | some ad => exact Src.ofSlice W ht ad 0 c [] (by simp) (fun j u hu => by simp at hu) (fun u hu => by cases hu)
  ·obtain ⟨b, o, cs, T, fr, rfl, h6, h7⟩ := aE h0
   refine Src.ofSlice W ht _ _ c _ (lu hk m) (fun j u hu => ?_) O
   obtain ⟨i, x, q, h8, h9, rfl⟩ := wx hk m j u hu
   obtain ⟨ys, _, ao, av⟩ := h7 i x h8
   cases ao
   rw [bW, dW W b (o + (i * k + q)) cs T fr h6, ← dh]
   exact av q u h9
 have n := lu hk m
 have M : ((l ++ m).map enc).flatten = (l.map enc).flatten ++ (m.map enc).flatten := by simp
 generalize (m.map enc).flatten = fm at G O n M
 subst Z
 have b7 : l.length * i.size ≤ cap * i.size := aS _ h2
 by_cases s : l.length + m.length ≤ cap
 ·have b8 : l.length * i.size + m.length * i.size ≤ cap * i.size := by rw [← aW]; exact aS _ s
  have a8 := fw (P := P) g' (off + l.length * i.size) e fm 0 p W hg (by rw [n]; omega) O
  have L : (Builtin.append_ #[t, t] ty #[.slice (some ⟨g', off, none⟩) l.length cap, .slice A m.length c]).run P W = .ok (.slice (some ⟨g', off, none⟩) (l.length + m.length) cap) (W.setRow g' (p.toList.take (off + l.length * i.size) ++ fm ++ p.toList.drop (off + l.length * i.size + fm.length)).toArray) := by
   simp [Builtin.append_, al ht, sizeOf, typeInfo, hi, G.len, s, G.cells, bW]
   simp only [Nat.add_zero] at a8
   rw [a8]
   simp
  refine .inl ⟨_, _, Q _ _ L, h _ _ [(g', _)] (by simpa using J.store _) (.inr ⟨g', off, cap, _, by rw [an], rfl, by simpa using s, h3, ?_, ?_⟩)⟩
  ·simp only [cg, an, bH, er, cd, n]
   rw [bP (by omega)]
   omega
  ·have hA : (p.toList.take (off + l.length * i.size)).length = off + l.length * i.size := by simp; omega
   show ((p.toList.take (off + l.length * i.size) ++ (fm ++ p.toList.drop (off + l.length * i.size + fm.length))).drop off).take ((l ++ m).length * i.size) = _
   rw [M, List.drop_append, eU, hA, show off - (off + l.length * i.size) = 0 by omega, List.drop_zero, show off + l.length * i.size - off = l.length * i.size by omega, h5]
   rw [an, aW, dq, dq, I, n, bM (by rw [I]; omega), show l.length * i.size + m.length * i.size - l.length * i.size = m.length * i.size by omega, bM (by rw [n]; omega)]
   simp
 ·have hold : (Builtin.firstCells i.size l.length (.slice (some ⟨g', off, none⟩) l.length cap)).run P W.drew = .ok ((l.map enc).flatten).toArray W.drew := by
   refine run_firstCells_some W.drew i.size l.length ⟨g', off, none⟩ l.length cap _ I (fun j u hu => ?_)
   rw [bW]
   show W.cell? ⟨g', off + j, none⟩ = some u
   rw [dW W g' (off + j) p e (0, 0) hg]
   rw [← h5] at hu
   have hj : j < l.length * i.size := by have := (aw.1 hu).1; simp at this; omega
   rw [ck hj, bY] at hu
   simpa using hu
  have hlen : (l ++ m).length = l.length + m.length := an
  have b1 := grownCap_ge W (l.length + m.length) cap e
  have b0 := grownCap_le_maxLen W (l.length + m.length) cap e U.2
  have L := run_append_grow_src (P := P) W t t ty e i z ht hi hz (some ⟨g', off, none⟩) l.length cap ((l.map enc).flatten) hold _ m.length _ G (by omega) (by have := U.2; unfold maxLen at this; omega) (growslice_fits (by omega) (by rw [a7]; exact U.1))
  have h6 := J.drew.alloc (.cells (((l.map enc).flatten ++ fm).toArray ++ Builtin.zeroCells z.cells (grownCap W (l.length + m.length) cap e - (l.length + m.length))) e (0, 0))
  have h7 := (ST.drop (A := (W.drew.heap.size, _) :: X) h6).perm (L' := X ++ ([(W.heap.size, _)] ++ Y)) (by simpa using (cE (a := (W.heap.size, _)) (l₁ := X) (l₂ := Y)).symm)
  refine .inl ⟨_, _, Q _ _ L, h _ _ _ h7 (gM.Fp (.inr ⟨W.heap.size, grownCap W (l.length + m.length) cap e, _, by rw [hlen], rfl, by rw [hlen]; exact b1, b0, ?_, ?_⟩))⟩
  ·rw [Array.size_append, size_zeroCells, ab]
   simp only [cg, an, I, n]
   rw [← aW, ← aW]
   congr 1
   omega
  ·rw [Array.toList_append, List.toList_toArray, hlen, M, List.take_append_of_le_length (by simp only [an, I, n]; rw [aW]; exact aJ _), bM (by simp only [an, I, n]; rw [aW]; exact aJ _)]
end
end Go.Proofs.YtbnbdigcbldfhaaGreat
namespace Go.Proofs.YtbnbdigcbldfhaaGreat
open Go.RowKit
variable [M : Md]
section
variable {P : Program} {ops : Array Oper} {Q : Exit → Act → World → Prop} {S : Array Bool → World → Prop}
def pM (ops : Array Oper) (l : Array Bool) : Prop := ∀ j o, ops[j]? = some o → l.getD j true = true → ∀ e ∈ o.after, Region.binds .any e = true → l.getD e.on true = true
def wM (ops : Array Oper) : Nat → List Nat → Bool
 | _, [] => true
 | j, k :: r => (match ops[j]? with | some o => o.after.any (fun e => Region.binds .any e && e.on == k) | none => false) && wM ops k r
theorem w6 {l : Array Bool} (c : pM ops l) : ∀ (r : List Nat) (j i : Nat), wM ops j r = true → (j :: r).getLast? = some i → l.getD j true = true → l.getD i true = true
 | [], j, i, _, h, a => by simp at h; subst h; exact a
 | k :: r, j, i, h, g, a => by
  simp only [wM, aC] at h
  obtain ⟨h1, d⟩ := h
  cases b : ops[j]? with
  | none => rw [b] at h1; cases h1
  | some o =>
   rw [b] at h1
   simp only [Array.any_eq_true] at h1
   obtain ⟨n, m, h1⟩ := h1
   simp only [aC, fX] at h1
   have := c j o b a o.after[n] (Array.getElem_mem m) h1.1
   rw [h1.2] at this
   exact w6 c r k i d (by simpa [List.getLast?_cons_cons] using g) this
def wh (ops : Array Oper) (i : Nat) (l : Array Bool) : Prop := pM ops l ∧ l.getD i true = false
theorem wh.Dx {l : Array Bool} {i : Nat} (h : wh ops i l) (j : Nat) (r : List Nat) (a : wM ops j r = true) (c : (j :: r).getLast? = some i) : l.getD j true = false := by
 cases b : l.getD j true with
 | false => rfl
 | true => have := w6 h.1 r j i a c b; rw [h.2] at this; cases this
theorem pM.start (n : Nat) (h : n = ops.size) : pM ops (Array.replicate n false) := by
 subst h
 intro j o c b
 have a : j < ops.size := (bp.1 c).1
 simp [a] at b
theorem pM.set {l : Array Bool} {i : Nat} (h : pM ops l) (q : i ∈ Region.ready .any ops l) : pM ops (l.setIfInBounds i true) := by
 intro j o p n e he m
 have up : ∀ {k : Nat}, l.getD k true = true → (l.setIfInBounds i true).getD k true = true := fun {k} hk => by
  by_cases c : i = k
  ·subst c
   by_cases g : i < l.size
   ·simp [g]
   ·simp [g]
  ·rw [gl true c]; exact hk
 by_cases b : i = j
 ·subst b
  obtain ⟨_, o', d, a⟩ := gp.1 q
  rw [p] at d
  cases d
  refine up ?_
  have := a e he m
  by_cases g : e.on < l.size
  ·simp [g] at this ⊢; exact this
  ·simp [g]
 ·rw [gl true b] at n
  exact up (h j o p n e he m)
def tC (P : Program) (ops : Array Oper) (S : Array Bool → World → Prop) (i : Nat) (o : Oper) (v : Value) (a : Act) : Prop :=
 (Region.wanted o (yielded ops a.tmps) = true ∧ ∀ l w, wh ops i l → S l w → (execOp a.eval o).run P w = .ok (.value v) w) ∨
 (Region.wanted o (yielded ops a.tmps) = false ∧ v = undef)
theorem tC.Fv {i : Nat} {o : Oper} {v : Value} {a : Act} {l : Array Bool} (h : tC P ops S i o v a) (hp : wh ops i l) : YieldsIf P ops (S l) o v a :=
 h.imp (fun ⟨h1, b⟩ => ⟨h1, fun w hw => b l w hp hw⟩) id
def AL (P : Program) (ops : Array Oper) (Q : Exit → Act → World → Prop) (S : Array Bool → World → Prop) : Nat → Array Bool → Act → World → Prop
 | 0, l, a, w => Region.ready .any ops l = [] ∧ Q .normal a w
 | n + 1, l, a, w => (Region.ready .any ops l = [] → Q .normal a w) ∧
  ∀ i ∈ Region.ready .any ops l, wpOp P ops Q i (fun c b => S (l.setIfInBounds i true) b ∧ AL P ops Q S n (l.setIfInBounds i true) c b) a w
theorem Am : ∀ (n : Nat) (l : Array Bool) (a : Act) (w : World), AL P ops Q S n l a w → wpAny P .any ops Q n l a w
 | 0, _, _, _, h => h
 | n + 1, _, _, _, h => ⟨h.1, fun i d => wpOp_mono (fun b g c => Am n _ b g c.2) (h.2 i d)⟩
theorem Ce {i j : Nat} {d p : Oper} {v : Value} (t : ops[j]? = some p) (m : d.apart ops p = true) (n : ∀ cs b, d.op ≠ .select cs b) (o : ∀ cs b, p.op ≠ .select cs b) (s : ∀ c a w, Q (.panic c) (a.put d.dst v) w → Q (.panic c) a w) {K : Act → World → Prop} {a : Act} {w : World} (u : tC P ops S i d v a) (h : wpOp P ops Q j K (a.put d.dst v) w) :
  wpOp P ops Q j (fun g r => tC P ops S i d v g ∧ K (g.put d.dst v) r) a w := by
 have h1 : YieldsIf P ops (fun w => ∃ l, wh ops i l ∧ S l w) d v a := u.imp (fun ⟨h1, k⟩ => ⟨h1, fun w ⟨l, hp, hw⟩ => k l w hp hw⟩) id
 refine wpOp_mono (fun g r q => ⟨q.1.imp (fun ⟨h1, k⟩ => ⟨h1, fun l w hp hw => k w ⟨l, hp, hw⟩⟩) id, q.2⟩) (wpOp_putIf (S := fun w => ∃ l, wh ops i l ∧ S l w) t m n o s h1 h)
theorem xM {i : Nat} {x : Oper} {v : Value} (U : ops[i]? = some x) (s : ∀ (j : Nat) (o : Oper) cs b, ops[j]? = some o → o.op ≠ .select cs b) (hQ : ∀ c a w, Q (.panic c) (a.put x.dst v) w → Q (.panic c) a w) (hm : ∀ l w, S (l.setIfInBounds i true) w → S l w) :
  ∀ (n : Nat) (l : Array Bool) (a : Act) (w : World), (∀ j y, ops[j]? = some y → j ≠ i → l.getD j true = false → (∀ e ∈ y.after, Region.binds .any e = true → e.on ≠ i) → x.apart ops y = true) →
   pM ops l → i ∈ Region.ready .any ops l → tC P ops S i x v a → S (l.setIfInBounds i true) w → AL P ops Q S n (l.setIfInBounds i true) (a.put x.dst v) w → AL P ops Q S (n + 1) l a w := by
 intro n
 induction n with
 | zero =>
  intro l a w _ L q M A H
  refine ⟨fun h => (by rw [h] at q; cases q), fun j G => ?_⟩
  by_cases d : j = i
  ·subst d
   exact (M.Fv ⟨L, (gp.1 q).1⟩).wpOp U (hm l w A) ⟨A, H⟩
  ·have := ready_mono G d
   rw [H.1] at this
   cases this
 | succ n ih =>
  intro l a w m L q M A H
  refine ⟨fun h => (by rw [h] at q; cases q), fun j G => ?_⟩
  by_cases d : j = i
  ·subst d
   exact (M.Fv ⟨L, (gp.1 q).1⟩).wpOp U (hm l w A) ⟨A, H⟩
  have h1 := H.2 j (ready_mono G d)
  obtain ⟨r, y, u, E⟩ := gp.1 G
  have J : ∀ e ∈ y.after, Region.binds .any e = true → e.on ≠ i := fun e he hb T => by
   have t := E e he hb
   have h0 := (gp.1 q).1
   rw [T] at t
   rcases Nat.lt_or_ge i l.size with O | O
   ·simp [O] at h0 t; rw [h0] at t; cases t
   ·simp [Array.getElem?_eq_none O] at t
  have t := Ce u (m j y u d r J) (fun cs b => s i x cs b U) (fun cs b => s j y cs b u) hQ M h1
  have p : ∀ k ok, ops[k]? = some ok → k ≠ i → (l.setIfInBounds j true).getD k true = false → (∀ e ∈ ok.after, Region.binds .any e = true → e.on ≠ i) → x.apart ops ok = true := fun k ok hk W K Y => by
   refine m k ok hk W ?_ Y
   by_cases I : j = k
   ·subst I; exact r
   ·rw [gl true I] at K; exact K
  have g : (l.setIfInBounds i true).setIfInBounds j true = (l.setIfInBounds j true).setIfInBounds i true := Array.setIfInBounds_comm _ _ (Ne.symm d)
  refine wpOp_mono (fun a' Z R => ?_) t
  have h4 : S ((l.setIfInBounds j true).setIfInBounds i true) Z := by rw [← g]; exact R.2.1
  refine ⟨hm _ Z h4, ih (l.setIfInBounds j true) a' Z p (L.set G) (ready_mono q (Ne.symm d)) R.1 h4 ?_⟩
  rw [← g]
  exact R.2.2
end
theorem Fi {ro : Md} {P : Program} {o : Oper} {a : Act} {w : World} {K : Act → World → Prop} {Q : Exit → Act → World → Prop} (i : ∀ c, o.op ≠ .defer c) (h : o.wp P a w K Q) (k : ¬ LetsOut Q) : o.wpIn ro.F 0 P a w K Q := by
 refine ⟨fun _ _ => trivial, ?_⟩
 rw [Oper.semAt_eq _ _ _ i]
 unfold Oper.wp at h
 cases g : (execOp a.eval o).run P w with
 | ok x b =>
  rw [g] at h
  cases x with
  | value v => exact h
  | skip => exact h
  | defer d => exact h
  | enter f args => exact xw (bf h fun e j he => by cases e with
   | returned v => exact he
   | panicked c => exact he
   | outgrown => exact he)
  | row r args => exact ⟨fun e => (nomatch (show (none : Option Nat).isSome = true from e)), fun c cs _ => by
    obtain ⟨v, b, r, s⟩ := h c cs
    exact ⟨v, b, r, (stepsIn_wide (P := P)).2 s⟩⟩
  | _ => exact h.elim
 | halt z b =>
  rw [g] at h
  cases z with
  | panic v => exact h
  | _ => exact h.elim
def AK (ops : Array Oper) : Prop := ∀ (i : Nat) (o : Oper), ops[i]? = some o → ∀ c, o.op ≠ .defer c
theorem tX {ro : Md} {P : Program} {ops : Array Oper} {Q : Exit → Act → World → Prop} (d : AK ops) (c : ¬ LetsOut Q) : ∀ (n : Nat) (l : Array Bool) (a : Act) (w : World), wpAny P .any ops Q n l a w → wpAnyIn ro.F 0 P .any ops Q n l a w
 | 0, _, _, _, h => h
 | n + 1, l, a, w, h => ⟨h.1, fun i j => by
  have b := h.2 i j
  unfold wpOp at b
  unfold wpOpIn
  cases g : ops[i]? with
  | none => rw [g] at b; exact tX d c n _ a w b
  | some o =>
   rw [g] at b
   simp only at b ⊢
   split
   ·rename_i hw
    rw [ak hw] at b
    rcases b with b | b
    ·exact Oper.wpIn_mono (fun a w h => tX d c n _ a w h) (Fi (d i o g) b c)
    ·exact absurd b.2 c
   ·rename_i hw
    rw [ai hw] at b
    exact ⟨fun _ _ => trivial, tX d c n _ _ w b⟩⟩
def Bb (l : List Oper) : Bool := l.all fun o => match o.op with
 | .defer _ => false
 | _ => true
theorem D7 {l : List Oper} (h : Bb l = true) : AK l.toArray := fun i o a c b => by
 have hm : o ∈ l := by
  rw [dw] at a
  exact List.mem_of_getElem? a
 have := fT.1 h o hm
 rw [b] at this
 cases this
theorem Ey [M : Md] {n : Nat} {Q : jW} : ¬ LetsOut (lift n Q) := fun ⟨_, _, h⟩ => h
def PX (P : Program) (n : Nat) (ops : Array Oper) (Q : jW) (S : Array Bool → World → Prop) (fuel : Nat) (listed : Array Bool) (E : Nat → Value) (W : World) : Prop :=
 pM ops listed → ∀ a, Ag n a E → AL P ops (lift n Q) S fuel listed a W
section
variable {P : Program} {n : Nat} {Q : jW} {E : Nat → Value} {W : World} {ops : Array Oper} {S : Array Bool → World → Prop} {fuel : Nat} {listed : Array Bool}
theorem yW {id : Nat} {l : List Oper} (S : Array Bool → World → Prop) (hm : P.follows .mixedOrders = true) (h : PX P n l.toArray Q S l.length (Array.replicate l.length false) E W.drew) (c : Bb l = true) : CW P n (.region id l.toArray true) Q E W := fun a b =>
 wpIn_region_any hm (tX (D7 c) Ey _ _ _ _ (Am _ _ _ _ (h (pM.start _ (by simp)) a b)))
def sE (ops : Array Oper) (listed : Array Bool) (i : Nat) : Bool := Region.noSelect ops && Region.free .any ops listed i && (Region.ready .any ops listed).contains i
theorem jB {o : Oper} {dd : Nat} {v : Value} (i : Nat) (g : ops[i]? = some o) (hk : sE ops listed i = true) (hw : mu n ops E o) (m : o.dst = some dd) (p : dd < n) (hm : ∀ l w, S (l.setIfInBounds i true) w → S l w) (k : S (listed.setIfInBounds i true) W) (q : ∀ l W, wh ops i l → S l W → iu P E o W v W) (h : PX P n ops Q S fuel (listed.setIfInBounds i true) (jw E dd v) W) : PX P n ops Q S (fuel + 1) listed E W := fun d a b => by
 simp only [sE, aC] at hk
 have j : i ∈ Region.ready .any ops listed := by simpa using hk.2
 exact xM g (Region.noSelect_spec hk.1.1) (fun _ _ _ h => zr h) hm fuel listed a W (Region.free_spec g hk.1.2) d j (.inl ⟨hw.of b, fun l w hp c => by rw [b.eval]; exact q l w hp c⟩) k (by rw [m]; exact h (d.set j) _ (b.put p v))
theorem A2 {A : Value → Prop} {o : Oper} {dd : Nat} (i : Nat) (d : ops[i]? = some o) (hk : sE ops listed i = true) (hw : mu n ops E o) (c : o.dst = some dd) (g : dd < n) (hm : ∀ l w, S (l.setIfInBounds i true) w → S l w) (b : S (listed.setIfInBounds i true) W) (j : ∃ p, A p ∧ ∀ W, iu P E o W p W) (h : ∀ p, A p → PX P n ops Q S fuel (listed.setIfInBounds i true) (jw E dd p) W) : PX P n ops Q S (fuel + 1) listed E W := by
 obtain ⟨p, h1, a⟩ := j
 exact jB i d hk hw c g hm b (fun _ W _ _ => a W) (h p h1)
theorem Aq {o : Oper} {dd : Nat} (i : Nat) (d : ops[i]? = some o) (hk : sE ops listed i = true) (hw : ∀ a, Ag n a E → Region.wanted o (yielded ops a.tmps) = false) (k : o.dst = some dd) (m : dd < n) (hm : ∀ l w, S (l.setIfInBounds i true) w → S l w) (j : S (listed.setIfInBounds i true) W) (h : PX P n ops Q S fuel (listed.setIfInBounds i true) (jw E dd undef) W) : PX P n ops Q S (fuel + 1) listed E W := fun c a b => by
 simp only [sE, aC] at hk
 have g : i ∈ Region.ready .any ops listed := by simpa using hk.2
 exact xM d (Region.noSelect_spec hk.1.1) (fun _ _ _ h => zr h) hm fuel listed a W (Region.free_spec d hk.1.2) c g (.inr ⟨hw a b, rfl⟩) j (by rw [k]; exact h (c.set g) _ (b.put m _))
theorem Ff {o : Oper} {dd j t : Nat} {want : Bool} (i : Nat) (m : ops[i]? = some o) (hk : sE ops listed i = true) (k : o.guard = some (j, want)) (p : (ops[j]?).bind (·.dst) = some t) (r : t < n) (b : E t = .bool (!want)) (g : o.dst = some dd) (q : dd < n) (hm : ∀ l w, S (l.setIfInBounds i true) w → S l w) (c : S (listed.setIfInBounds i true) W) (h : PX P n ops Q S fuel (listed.setIfInBounds i true) (jw E dd undef) W) : PX P n ops Q S (fuel + 1) listed E W :=
 Aq i m hk (fun a d => by have s := d.yield p r b; simp [Region.wanted, k, s]) g q hm c h
theorem EG {o : Oper} {dd j t : Nat} {want : Bool} (i : Nat) (m : ops[i]? = some o) (hk : sE ops listed i = true) (k : o.guard = some (j, want)) (p : (ops[j]?).bind (·.dst) = some t) (r : t < n) (b : E t = undef) (g : o.dst = some dd) (q : dd < n) (hm : ∀ l w, S (l.setIfInBounds i true) w → S l w) (c : S (listed.setIfInBounds i true) W) (h : PX P n ops Q S fuel (listed.setIfInBounds i true) (jw E dd undef) W) : PX P n ops Q S (fuel + 1) listed E W :=
 Aq i m hk (fun a d => by have s := d.wY p r b; simp [Region.wanted, k, s]) g q hm c h
theorem ER {o : Oper} {dd : Nat} (i : Nat) (s : ops[i]? = some o) (g : Region.ready .any ops listed = [i]) (hw : mu n ops E o) (l : o.dst = some dd) (m : dd < n) (h : jh P E o W fun v W' => S (listed.setIfInBounds i true) W' ∧ PX P n ops Q S fuel (listed.setIfInBounds i true) (jw E dd v) W') : PX P n ops Q S (fuel + 1) listed E W := fun k a d => by
 have b : i ∈ Region.ready .any ops listed := by rw [g]; simp
 refine ⟨fun r => (by rw [r] at g; cases g), fun j p => ?_⟩
 rw [g] at p
 obtain rfl := aA.1 p
 unfold wpOp
 simp only [s]
 rw [ak (hw.of d)]
 refine .inl ?_
 unfold Oper.wp
 rw [d.eval]
 rcases h with ⟨v, W', h1, c⟩ | ⟨W', h1, c⟩ | ⟨f, args, h1, c⟩
 ·rw [h1, gf]; exact ⟨c.1, by rw [l]; exact c.2 (k.set b) _ (d.put m v)⟩
 ·rw [h1, Oper.upon_skip]; exact ⟨c.1, by rw [l]; exact c.2 (k.set b) _ (d.put m _)⟩
 ·rw [h1, gh]
  refine bf c ?_
  rintro e t ⟨v, rfl, q⟩
  exact ⟨q.1, by simp only [l]; exact q.2 (k.set b) _ (d.put m v)⟩
theorem Fl {o : Oper} (i : Nat) (r : ops[i]? = some o) (g : Region.ready .any ops listed = [i]) (hw : mu n ops E o) (l : o.dst = none) (h : jh P E o W fun _ W' => S (listed.setIfInBounds i true) W' ∧ PX P n ops Q S fuel (listed.setIfInBounds i true) E W') : PX P n ops Q S (fuel + 1) listed E W := fun k a d => by
 have b : i ∈ Region.ready .any ops listed := by rw [g]; simp
 refine ⟨fun q => (by rw [q] at g; cases g), fun j m => ?_⟩
 rw [g] at m
 obtain rfl := aA.1 m
 unfold wpOp
 simp only [r]
 rw [ak (hw.of d)]
 refine .inl ?_
 unfold Oper.wp
 rw [d.eval]
 rcases h with ⟨v, W', h1, c⟩ | ⟨W', h1, c⟩ | ⟨f, args, h1, c⟩
 ·rw [h1, gf, l]; exact ⟨c.1, c.2 (k.set b) _ (d.qR _)⟩
 ·rw [h1, Oper.upon_skip, l]; exact ⟨c.1, c.2 (k.set b) _ (d.qR _)⟩
 ·rw [h1, gh]
  refine bf c ?_
  rintro e s ⟨v, rfl, p⟩
  simp only [l]
  exact ⟨p.1, p.2 (k.set b) _ (d.qR _)⟩
theorem iU (d : Region.ready .any ops listed = []) (h : Q .normal E W) : PX P n ops Q S fuel listed E W := fun _ a b => by
 cases fuel with
 | zero => exact ⟨d, E, b, h⟩
 | succ f => exact ⟨fun _ => ⟨E, b, h⟩, fun i c => by rw [d] at c; cases c⟩
theorem Ci {p : Prop} {b : Bool} (a : b = true) (h : b = false) : p := by rw [a] at h; cases h
theorem jv {a : Array Bool} (b : listed = a) (h : PX P n ops Q S fuel a E W) : PX P n ops Q S fuel listed E W := by rw [b]; exact h
theorem ET {o o' : Oper} {d r : Nat} (i j : Nat) (J : ops[i]? = some o) (K : ops[j]? = some o') (p : Region.ready .any ops listed = [i, j]) (hw : mu n ops E o) (w : mu n ops E o') (l : o.dst = some d) (t : o'.dst = some r) (m : d < n) (u : r < n) (h : jh P E o W fun v W' => S (listed.setIfInBounds i true) W' ∧ PX P n ops Q S fuel (listed.setIfInBounds i true) (jw E d v) W') (G : jh P E o' W fun v W' => S (listed.setIfInBounds j true) W' ∧ PX P n ops Q S fuel (listed.setIfInBounds j true) (jw E r v) W') : PX P n ops Q S (fuel + 1) listed E W := fun s a g => by
 have key : ∀ (k : Nat) (q : Oper) (e : Nat), ops[k]? = some q → k ∈ Region.ready .any ops listed → mu n ops E q → q.dst = some e → e < n → (jh P E q W fun v W' => S (listed.setIfInBounds k true) W' ∧ PX P n ops Q S fuel (listed.setIfInBounds k true) (jw E e v) W') →
   wpOp P ops (lift n Q) k (fun A x => S (listed.setIfInBounds k true) x ∧ AL P ops (lift n Q) S fuel (listed.setIfInBounds k true) A x) a W := by
  intro k q e hk b hw l m h
  unfold wpOp
  simp only [hk]
  rw [ak (hw.of g)]
  refine .inl ?_
  unfold Oper.wp
  rw [g.eval]
  rcases h with ⟨v, W', h1, c⟩ | ⟨W', h1, c⟩ | ⟨f, args, h1, c⟩
  ·rw [h1, gf]; exact ⟨c.1, by rw [l]; exact c.2 (s.set b) _ (g.put m v)⟩
  ·rw [h1, Oper.upon_skip]; exact ⟨c.1, by rw [l]; exact c.2 (s.set b) _ (g.put m _)⟩
  ·rw [h1, gh]
   refine bf c ?_
   rintro e x ⟨v, rfl, y⟩
   exact ⟨y.1, by simp only [l]; exact y.2 (s.set b) _ (g.put m v)⟩
 refine ⟨fun I => (by rw [I] at p; cases p), fun k hk => ?_⟩
 rw [p] at hk
 rcases ah.1 hk with rfl | hk
 ·exact key _ o d J (by rw [p]; simp) hw l m h
 ·obtain rfl := aA.1 hk
  exact key _ o' r K (by rw [p]; simp) w t u G
theorem lE {l : Array Bool} {i j : Nat} {A : Prop} (a : Nat.beq i j = false) (h : (l.setIfInBounds i true).getD j true = false → A) : l.getD j true = false → A := fun b => h (by
 rw [gl true (fun e => by subst e; simp at a)]; exact b)
end
theorem um.at {α : Type} {e : TypeId} {enc : α → List Value} {k : Nat} {v : Value} {l : List α} {R : List (Nat × Obj)} (h : gM e enc k v l R) (hk : ∀ x, (enc x).length = k) {p : Value} {i : Nat} (hp : um R k p i) {x : α} (c : l[i]? = some x) : At (uI R) p (enc x) := by
 obtain ⟨g', a, cap, rfl, rfl, _, _, _, _, rfl, b⟩ := rX h hk hp c
 exact ⟨g', i * k, a, e, (0, 0), rfl, by simp [uI], b⟩
theorem kL.form {κ β : Type} {kenc : κ → Value} {vf : β → Value} {μ : gS} {v : Value} {l : List (κ × β)} (h : kL kenc vf μ v l) : ∃ r, v = .map r := by
 rcases h with ⟨h, _⟩ | ⟨m, es, clock, h, _⟩
 ·exact ⟨_, h⟩
 ·exact ⟨_, h⟩
section
variable {P : Program} {W : World} {E : Nat → Value} {d : Option Nat} {ty : TypeId} {pos : String} {af : Array Edge} {g : Option (Nat × Bool)}
theorem Cj {c n : TypeId} {x y : Operand} {α β : Type} {fv : Value} {μ : gS} {av : α → List Value} {m : β → Value} {pm : α → Option β} {s u : Array TypeId} {i : Bool} (j : P.underlying c = some (.func s u i)) (h : qt P fv μ av m pm) (k : gz E x = fv) (l : gz E y = .nilFunc) :
  iu P E ⟨d, .binOp .eql c x y n, ty, pos, af, g⟩ W (.bool false) W := by
 obtain ⟨f, a, b, rfl⟩ := h.form
 exact zT j k l
end
noncomputable def wX {β : Type} (l : List (ByteArray × β)) : Option (List ByteArray) :=
 open Classical in if (l.map (·.1)).Nodup ∧ (∀ p ∈ l, p.1.size ≤ maxLen) ∧ l.length * 16 ≤ 140737488355328 then some (iJ (l.map (·.1))) else none
theorem oy.zip {κ γ : Type} {Q : Value → γ → List (Nat × Obj) → Prop} : ∀ {d : List (κ × Value)} {l : List (κ × γ)} {R : List (Nat × Obj)}, oy Q d l R →
  ∃ a : List (κ × (Value × γ)), a.map (fun p => (p.1, p.2.1)) = d ∧ a.map (fun p => (p.1, p.2.2)) = l ∧ ∀ p ∈ a, ∃ R1, Q p.2.1 p.2.2 R1 ∧ ∀ x ∈ R1, x ∈ R
 | [], [], R, _ => ⟨[], rfl, rfl, fun _ h => by cases h⟩
 | [], _ :: _, _, h => h.elim
 | _ :: _, [], _, h => h.elim
 | p :: d, q :: l, R, h => by
  obtain ⟨h1, R1, R2, rfl, k, m⟩ := h
  obtain ⟨a, g, i, j⟩ := oy.zip m
  refine ⟨(q.1, (p.2, q.2)) :: a, by simp [g, ← h1], by simp [i], fun x b => ?_⟩
  rcases ah.1 b with rfl | b
  ·exact ⟨R1, k, fun y c => aR _ c⟩
  ·obtain ⟨R3, n, o⟩ := j x b
   exact ⟨R3, n, fun y c => aZ _ (o y c)⟩
theorem ow.zip {κ κ2 β : Type} {kenc : κ → Value} {kenc2 : κ2 → Value} {vf : β → Value} {μ : gS} {v : Value} {l : List (κ × List (κ2 × β))} (h : ow kenc (gW kenc2 vf) μ v l) :
  ∃ a : List (κ × (Value × List (κ2 × β))), a.map (fun p => (p.1, p.2.2)) = l ∧ kL kenc (fun x => x.1) μ v a ∧ ∀ p ∈ a, kL kenc2 vf μ p.2.1 p.2.2 := by
 obtain ⟨t, R, ⟨r, s, rfl, ⟨m, es, clock, rfl, rfl, c⟩, n⟩, d⟩ := h
 obtain ⟨a, g, i, j⟩ := n.zip
 refine ⟨a, i, .inr ⟨m, es, clock, rfl, d _ _ (by simp), ⟨?_, c.born, c.lt⟩⟩, fun p hp => ?_⟩
 ·rw [c.qX, ← g]; simp
 ·obtain ⟨R1, h1, k⟩ := j p hp
  exact h1.at (fun b o q => d b o (aZ _ (k _ q)))
theorem DH {α : Type} {a : Nat} {l m fs : List α} (h1 : fs.length * a ≤ 140737488355328) (b : fs.length ≤ maxLen) (h : (l ++ m).length ≤ fs.length) : je a l m = some (l ++ m) := by
 rw [an] at h
 unfold je
 rw [ak ⟨aX (aS _ h) h1, aX h b⟩]
end Go.Proofs.YtbnbdigcbldfhaaGreat
namespace Go.Proofs.YtbnbdigcbldfhaaGreat
open Go.RowKit
variable [M : Md]
section
variable {P : Program} {n : Nat} {Q : jW} {E : Nat → Value} {W : World} {ops : Array Oper} {rest : List Oper}
variable {dd : Bool} {α : Type} {enc : α → List Value} {k : Nat} {μ : gS} {v : Value}
variable {d : Option Nat} {ty : TypeId} {pos : String} {af : Array Edge} {g : Option (Nat × Bool)} {F : Nat → Prop} {w : World} {L : List (Nat × Obj)}
def xl (enc : α → List Value) (k : Nat) : nM (List α) := fun μ ys x => ∃ v, ys = [v] ∧ Sl (Pl enc) k μ v x
theorem xl.mono (enc : α → List Value) (k : Nat) : yC (xl enc k) := fun _ _ _ _ b ⟨v, h1, a⟩ => ⟨v, h1, a.mono (Pl.mono _) b⟩
inductive sC (enc : α → List Value) (k : Nat) (μ : gS) : List Value → List (List α) → Prop
 | nil : sC enc k μ [] []
 | cons {v : Value} {x : List α} {vs : List Value} {l : List (List α)} : Sl (Pl enc) k μ v x → sC enc k μ vs l → sC enc k μ (v :: vs) (x :: l)
theorem sC.length {vs : List Value} {l : List (List α)} (h : sC enc k μ vs l) : vs.length = l.length := by
 induction h with
 | nil => rfl
 | cons _ _ ih => simp [ih]
theorem sC.get {vs : List Value} {l : List (List α)} (h : sC enc k μ vs l) : ∀ (i : Nat) (x : List α), l[i]? = some x → ∃ v, vs[i]? = some v ∧ Sl (Pl enc) k μ v x := by
 induction h with
 | nil => intro i x a; simp at a
 | cons h1 _ ih =>
  intro i x a
  cases i with
  | zero => simp at a; subst a; exact ⟨_, rfl, h1⟩
  | succ i => simpa using ih i x (by simpa using a)
theorem xl.lit {b m : Nat} {vs : List Value} {e : TypeId} {l : List (List α)} (hm : l.length = m) (d : m ≤ maxLen) (g : μ b = some (.cells vs.toArray e (0, 0))) (h : sC enc k μ vs l) : Sl (xl enc k) 1 μ (.slice (some ⟨b, 0, none⟩) m m) l := by
 subst hm
 refine ⟨_, _, rfl, aJ _, d, fun _ => ⟨b, 0, _, _, _, rfl, g, fun i x n => ?_⟩⟩
 obtain ⟨v, h1, c⟩ := h.get i x n
 refine ⟨[v], rfl, ⟨v, rfl, c⟩, fun j y a => ?_⟩
 cases j with
 | zero => simp at a; subst a; simpa using h1
 | succ j => simp at a
theorem Cu {k2 : Nat} {t e : TypeId} {x a : Operand} {r : IntKind} {i : Int} {l : List (List α)} {x0 : List α} (o : P.underlying t = some (.slice e)) (he : ∀ w, (sizeOf e).run P w = .ok 1 w) (q : gz E x = v) (k : gz E a = .int r i) (n : Sl (xl enc k2) 1 μ v l) (b : 0 ≤ i) (m : l[i.toNat]? = some x0) :
  ∃ p, (∃ v0, At μ p [v0] ∧ Sl (Pl enc) k2 μ v0 x0) ∧ ∀ W, iu P E ⟨d, .indexAddr t x a, ty, pos, af, g⟩ W p W := by
 obtain ⟨p, ys, h1, ⟨v0, rfl, c⟩, h, j⟩ := Aw (d := d) (ty := ty) (pos := pos) (af := af) (g := g) o he q k n b m
 exact ⟨p, ⟨v0, h, c⟩, j⟩
end
end Go.Proofs.YtbnbdigcbldfhaaGreat
namespace Go.Proofs.YtbnbdigcbldfhaaGreat
open Go.RowKit
variable {dd : Bool}
section
variable {P : Program} {fn : Func} {R : Ending → World → Prop} {E : Nat → Value} {W : World}
theorem Ay {a : Tmp} {t0 : TypeId} {a0 : Addr} {v0 : Value} {b : Tmp} {v1 : Value} (d : fn.results = #[.cell a t0, .tmp b]) (c : E a = .pointer (some a0)) (i : (Instr.loadAt t0 (.pointer (some a0))).run P W = .ok v0 W) (h1 : E b = v1) (h : R (.returned (.tuple #[v0, v1])) W) : oG P fn R .ret E W :=
 ⟨.tuple #[v0, v1], fun tmps g => by
  have j : (loadVar t0 a0).run P W = .ok v0 W := by simpa [Instr.loadAt, Instr.sureAddr] using i
  simp [results, d, g, asAddr, c, j, h1], h⟩
end
end Go.Proofs.YtbnbdigcbldfhaaGreat
namespace Go.Proofs.YtbnbdigcbldfhaaGreat
open Go.RowKit
variable [M : Md]
section
variable {x y : Nat × Obj} {A B C L R S : List (Nat × Obj)}
theorem Pz : (x :: A).Perm (x :: A) := .refl _
theorem Pb (h : A.Perm (x :: B)) : (y :: A).Perm (x :: y :: B) := (h.cons y).trans (.swap ..)
theorem Pr (h : A.Perm (x :: B)) : (S ++ A).Perm (x :: (S ++ B)) := (h.append_left S).trans cE
theorem Qz : (R ++ A).Perm (R ++ A) := .refl _
theorem Qb (h : A.Perm (R ++ B)) : (y :: A).Perm (R ++ (y :: B)) := (h.cons y).trans List.perm_middle.symm
theorem Qr (h : A.Perm (R ++ B)) : (S ++ A).Perm (R ++ (S ++ B)) := (h.append_left S).trans (eL S R B)
def oJ (L L' : List (Nat × Obj)) : Prop := ∃ M, L.Perm (L' ++ M)
theorem Sn : oJ L [] := ⟨L, .refl _⟩
theorem St : oJ L L := ⟨[], by rw [aU]⟩
theorem Sb (h : L.Perm (x :: A)) (k : oJ A B) : oJ L (x :: B) := let ⟨M, m⟩ := k; ⟨M, h.trans (m.cons x)⟩
theorem Sr (h : L.Perm (R ++ A)) (k : oJ A B) : oJ L (R ++ B) := let ⟨M, m⟩ := k; ⟨M, by rw [ar]; exact h.trans (m.append_left R)⟩
theorem Kb (k : oJ A B) : oJ (x :: A) (x :: B) := Sb Pz k
theorem Kr (k : oJ A B) : oJ (R ++ A) (R ++ B) := Sr Qz k
theorem Db (k : oJ A B) : oJ (x :: A) B := let ⟨M, m⟩ := k; ⟨x :: M, (m.cons x).trans List.perm_middle.symm⟩
theorem Dr (k : oJ A B) : oJ (R ++ A) B := let ⟨M, m⟩ := k; ⟨R ++ M, (m.append_left R).trans (eL R B M)⟩
theorem oJ.mem (s : oJ L A) : ∀ p, p ∈ A → p ∈ L := fun p hp => let ⟨M, m⟩ := s; m.mem_iff.2 (aR _ hp)
theorem ST.gy {dd : Bool} {F : Nat → Prop} {w W : World} {μ : gS} (h : ST dd F w W μ L) (s : oJ L A) : ST dd F w W μ A := let ⟨M, m⟩ := s; (h.perm m).sublist (List.sublist_append_left A M)
theorem my.gy {μ : gS} {W : World} (h : my μ L W) (s : oJ L A) : my μ A W := h.sub (gZ.refl _) s.mem
theorem my.tY {μ μ' : gS} {W : World} (h : my μ L W) (a : gZ μ' μ) (s : oJ L A) : my μ' A W := h.sub a s.mem
theorem Cn : L.Perm ([] ++ L) := .refl _
theorem Cb (h : L.Perm (x :: A)) (k : A.Perm (B ++ C)) : L.Perm ((x :: B) ++ C) := h.trans (k.cons x)
theorem Cr (h : L.Perm (R ++ A)) (k : A.Perm (B ++ C)) : L.Perm ((R ++ B) ++ C) := by rw [ar]; exact h.trans (k.append_left R)
theorem C0 (k : L.Perm (B ++ C)) : L.Perm (([] ++ B) ++ C) := k
theorem Tn : ([] ++ A).Perm A := .refl _
theorem Tb (h : (A ++ B).Perm C) : ((x :: A) ++ B).Perm (x :: C) := h.cons x
theorem Tr (h : (A ++ B).Perm C) : ((R ++ A) ++ B).Perm (R ++ C) := by rw [ar]; exact h.append_left R
theorem Nb (h : L.Perm (x :: A)) (k : A.Perm B) : L.Perm (x :: B) := h.trans (k.cons x)
theorem Nr (h : L.Perm (R ++ A)) (k : A.Perm B) : L.Perm (R ++ B) := h.trans (k.append_left R)
theorem Nz : L.Perm L := .refl _
theorem F1 {R' R1 : List (Nat × Obj)} (hp : R.Perm (R' ++ R1)) : (R ++ A).Perm (R' ++ (R1 ++ A)) := by rw [← ar]; exact hp.append_right A
theorem Mh : x ∈ x :: A := .head _
theorem Mt (h : x ∈ A) : x ∈ y :: A := .tail _ h
theorem Ma (h : x ∈ A) : x ∈ R ++ A := aZ _ h
theorem Ml (h : x ∈ R) : x ∈ R ++ A := aR _ h
end
section
variable {dd : Bool} {F : Nat → Prop} {w W : World} {μ : gS} {L L0 L1 Y R : List (Nat × Obj)}
theorem ST.yh (h : ST dd ia w W μ L) (s : oJ L L1) : mL dd [] L1 w W := let ⟨_, m⟩ := s; (h.perm m).Fo
theorem ST.nL (h : ST dd (keys L0) w W μ L) (s : oJ L L1) : mL dd L0 L1 w W := let ⟨_, m⟩ := s; (h.perm m).yB
theorem ST.BP : ∀ {R : List (Nat × Obj)} {μ : gS}, ST dd F w W μ (R ++ Y) → ∃ μ', ST dd F w W μ' Y ∧ gZ μ μ' ∧ Lo F w μ μ' ∧ ∀ b o, (b, o) ∈ R → μ' b = some o
 | [], μ, h => ⟨μ, h, gZ.refl _, Lo.refl, fun _ _ h => by cases h⟩
 | (g, o) :: R, μ, h => by
  have c : ST dd F w W μ ([] ++ (g, o) :: (R ++ Y)) := h
  obtain ⟨μ', d, a2, a3, a4⟩ := ST.BP (R := R) (ST.xz (A := []) c)
  refine ⟨μ', d, (ST.xy (A := []) c).trans a2, (ST.B3 (A := []) c).trans a3, fun b o' a => ?_⟩
  rcases ah.1 a with a | a
  ·cases a; exact a2 _ _ (ak rfl)
  ·exact a4 b o' a
theorem ST.wz {α : Type} {e' : TypeId} {enc : α → List Value} {k : Nat} {v : Value} {l : List α} (a : ST dd F w W μ (R ++ Y)) (h : gM e' enc k v l R) (hk : ∀ x, (enc x).length = k) : ∃ μ', ST dd F w W μ' Y ∧ gZ μ μ' ∧ Lo F w μ μ' ∧ Sl (Pl enc) k μ' v l := by
 obtain ⟨μ', b, a2, a3, a4⟩ := ST.BP a
 exact ⟨μ', b, a2, a3, h.sl hk a4⟩
section
variable {P : Program} {n : Nat} {Q : jW} {E : Nat → Value} {V : World} {id : Nat} {l : List Oper} {A B C : List (Nat × Obj)}
theorem iI (b : my μ A V.drew) (hm : P.follows .mixedOrders = true) (h : PX P n l.toArray Q (fun _ W => my μ A W) l.length (Array.replicate l.length false) E V.drew) (a : Bb l = true := by kernel_rfl) : CW P n (.region id l.toArray true) Q E V := yW _ hm h a
theorem sO (i : Nat) (b : my μ A V.drew) (h1 : my μ B V.drew) (hm : P.follows .mixedOrders = true) (h : PX P n l.toArray Q (fun l W => my μ A W ∧ (l.getD i true = false → my μ B W)) l.length (Array.replicate l.length false) E V.drew) (a : Bb l = true := by kernel_rfl) : CW P n (.region id l.toArray true) Q E V := yW _ hm h a
end
structure pb (μ : gS) (L0 : List (Nat × Obj)) (w : World) : Prop where
 H : sW L0 w
 N : (L0.map (·.1)).Nodup
 S : gZ μ (mG w L0)
theorem ST.zz (h : pb μ L0 w) : ST dd (keys L0) w w μ L0 := (ST.BY h.H h.N).ki h.S
theorem CH {P : Program} {fn : Func} {R : Ending → World → Prop} {E : Nat → Value} {W : World} (h : oG P fn R .ret E W) : oG P fn R .normal E W := h
end
section
variable {dd : Bool} {P : Program} {E : Nat → Value} {W : World} {d : Option Nat} {ty : TypeId} {pos : String} {af : Array Edge} {g : Option (Nat × Bool)} {F : Nat → Prop} {w : World} {μ : gS} {L : List (Nat × Obj)}
theorem ib {K : Value → World → Prop} {B : List (Nat × Obj)} {t : TypeId} {x y : Operand} (v : Value) {b off : Nat} {cs : Array Value} {T : TypeId} (a : Array Value) (c : ST dd F w W μ ((b, .cells cs T (0, 0)) :: B)) (l : gz E x = .pointer (some ⟨b, off, none⟩)) (m : gz E y = v) (i : ∀ w, (sizeOf t).run P w = .ok v.cells.size w) (h1 : ∀ u ∈ v.cells.toList, u.oneCell' = true) (k : off + v.cells.size ≤ cs.size) (j : (cs.toList.take off ++ v.cells.toList ++ cs.toList.drop (off + v.cells.size)).toArray = a) (h : ∀ W', ST dd F w W' μ ((b, .cells a T (0, 0)) :: B) → K undef W') : jh P E ⟨d, .store t x y, ty, pos, af, g⟩ W K := vz [] v a c l m i h1 k j h
end
section
variable {dd : Bool}
variable {P : Program} {n : Nat} {Q : jW} {E : Nat → Value} {W : World} {ops : Array Oper} {rest : List Oper}
 {d : Option Nat} {ty : TypeId} {pos : String} {af : Array Edge} {g : Option (Nat × Bool)}
 {F : Nat → Prop} {w : World} {μ : gS} {L : List (Nat × Obj)}
theorem jJ {K : Value → World → Prop} {α : Type} {e t : TypeId} {enc : α → List Value} {k a : Nat} {z v vs : Value} {l m r : List α} {R Y : List (Nat × Obj)} {x y : Operand} {i : TypeInfo} (b : ST dd F w W μ (R ++ Y)) (hk : ∀ x, (enc x).length = k) (j : 0 < k) (h1 : ∀ x, ∀ u ∈ enc x, u.oneCell' = true) (I : P.underlying t = some (.slice e)) (A : P.info? e = some i) (M : i.zero = some z) (o : z.cells.size = k) (n : i.size = k) (c : i.bytes = a) (J : gz E x = v) (L : gz E y = vs) (q : gM e enc k v l R) (G : Sl (Pl enc) k (hp W) vs m) (s : je a l m = some r) (h : ∀ W' p R', ST dd F w W' μ (R' ++ Y) → gM e enc k p r R' → K p W') : jh P E ⟨d, .call ⟨.builtin .append, #[x, y], #[t, t]⟩, ty, pos, af, g⟩ W K :=
 wv [] b hk j h1 I A M o n c J L q G s h
end
section
variable {dd : Bool}
variable {P : Program} {E : Nat → Value} {W : World} {d : Option Nat} {ty : TypeId} {pos : String} {af : Array Edge} {g : Option (Nat × Bool)}
 {F : Nat → Prop} {w : World} {μ : gS} {L : List (Nat × Obj)}
theorem AT {K : Value → World → Prop} {α : Type} {e : TypeId} {enc : α → List Value} {k : Nat} {l : List α} {f : FuncId} {fv : Operand} {ax : Array Operand} {ats : Array TypeId} {caps : Array Value} {args : List Value} (Y : List (Nat × Obj)) (a : ST dd F w W μ Y) (i : gz E fv = .func (.func f) #[] caps) (he : ∀ args w, (callFunc f args).run P w = .ok (.enter f args) w) (b : ax.map (gz E) ++ caps = args.toArray) (c : iS dd P f args W e enc k l) (h : ∀ W' v μ' R, ST dd F w W' μ' (R ++ Y) → gZ μ μ' → Lo F w μ μ' → gM e enc k v l R → K v W') : jh P E ⟨d, .call ⟨.value fv, ax, ats⟩, ty, pos, af, g⟩ W K :=
 Be [] Y a i he b c h
end
section
variable {dd : Bool}
variable {P : Program} {E : Nat → Value} {W : World} {d : Option Nat} {ty : TypeId} {pos : String} {af : Array Edge} {g : Option (Nat × Bool)}
 {F : Nat → Prop} {w : World} {μ : gS} {L : List (Nat × Obj)} {α : Type} {e' : TypeId} {enc : α → List Value} {k : Nat} {v : Value} {l : List α} {R : List (Nat × Obj)}
theorem tM {K : Value → World → Prop} {Y : List (Nat × Obj)} {t : TypeId} {x y : Operand} {p u : Value} {i : Nat} {x0 x1 : α} (a : ST dd F w W μ (R ++ Y)) (h : gM e' enc k v l R) (hk : ∀ x, (enc x).length = k) (h1 : ∀ x, ∀ u ∈ enc x, u.oneCell' = true) (m : gz E x = p) (n : gz E y = u) (hu : u.cells = (enc x1).toArray) (hp : um R k p i) (j : l[i]? = some x0) (c : ∀ w, (sizeOf t).run P w = .ok k w) (b : ∀ W' R', ST dd F w W' μ (R' ++ Y) → gM e' enc k v (l.set i x1) R' → K undef W') : jh P E ⟨d, .store t x y, ty, pos, af, g⟩ W K :=
 Bn [] a h hk h1 m n hu hp j c b
end
section
variable {dd : Bool}
variable {P : Program} {W : World} {κ : Type} {kt : TypeId} {kenc : κ → Value} {beq : κ → κ → Bool}
variable {β : Type} {vf : β → Value} {E : Nat → Value} {d : Option Nat} {ty : TypeId} {pos : String} {af : Array Edge} {g : Option (Nat × Bool)} {F : Nat → Prop} {w : World} {μ : gS} {L : List (Nat × Obj)}
theorem vK {c : Value → World → Prop} {Y R : List (Nat × Obj)} {t e : TypeId} {m x y : Operand} {b : Value} {l : List (κ × β)} {k : κ} {v : β} (K : jC P kt kenc beq) (j : P.underlying t = some (.map kt e)) (a : ST dd F w W μ (R ++ Y)) (h : gW kenc vf b l R) (hm : gz E m = b) (n : gz E x = kenc k) (o : gz E y = vf v) (i : ∀ W' R', ST dd F w W' μ (R' ++ Y) → gW kenc vf b (iN beq l k v) R' → c undef W') : jh P E ⟨d, .mapUpdate t m x y, ty, pos, af, g⟩ W c :=
 qV [] K j a h hm n o i
end
section
variable {dd : Bool}
variable {P : Program} {E : Nat → Value} {W : World} {d : Option Nat} {ty : TypeId} {pos : String} {af : Array Edge} {g : Option (Nat × Bool)}
 {F : Nat → Prop} {w : World} {μ : gS} {L : List (Nat × Obj)} {α : Type} {e' : TypeId} {enc : α → List Value} {k : Nat} {v : Value} {l : List α} {R : List (Nat × Obj)}
theorem te {K : Value → World → Prop} (z : α) {Y : List (Nat × Obj)} {t e : TypeId} {x : Operand} {u b : Value} {i : Nat} (a : ST dd F w W μ (R ++ Y)) (h : gM e' enc k v l R) (hk : ∀ x, (enc x).length = k) (h1 : ∀ x, ∀ u ∈ enc x, u.oneCell' = true) (m : P.underlying t = some (.slice e)) (o : ∀ w, (zeroValue e).run P w = .ok b w) (hu : xi k v i u) (j : b.cells = (enc z).toArray) (n : gz E x = u) (c : ∀ W' R', ST dd F w W' μ (R' ++ Y) → gM e' enc k v (lC l i z) R' → K (.tuple #[]) W') : jh P E ⟨d, .call ⟨.builtin .clear, #[x], #[t]⟩, ty, pos, af, g⟩ W K :=
 Ae z [] a h hk h1 m o hu j n c
end
section
variable {dd : Bool}
variable {κ γ : Type} {Q : Value → γ → List (Nat × Obj) → Prop} {beq : κ → κ → Bool} {kenc : κ → Value}
variable {P : Program} {W : World} {kt : TypeId} {E : Nat → Value} {d : Option Nat} {ty : TypeId} {pos : String} {af : Array Edge} {g : Option (Nat × Bool)} {F : Nat → Prop} {w : World} {μ : gS} {L : List (Nat × Obj)}
variable {κ2 β : Type} {kenc2 : κ2 → Value} {vf : β → Value} {beq2 : κ2 → κ2 → Bool} {kt2 : TypeId}
theorem BC {c : Value → World → Prop} {Y R : List (Nat × Obj)} {t e : TypeId} {m x y : Operand} {j : Value} {b : List (κ × Value)} {l i : List (κ × List (κ2 × β))} {k : κ} {k2 : κ2} {v : β} (hk : ∀ {x y : κ}, beq x y = true → x = y) (K : jC P kt2 kenc2 beq2) (p : P.underlying t = some (.map kt2 e)) (a : ST dd F w W μ (R ++ Y)) (h : iX kenc (gW kenc2 vf) j b l R) (hm : gz E m = lP beq b k (.map none)) (q : gz E x = kenc2 k2) (r : gz E y = vf v) (o : wD beq beq2 l k k2 v = some i) (n : ∀ W' R', ST dd F w W' μ (R' ++ Y) → iX kenc (gW kenc2 vf) j b i R' → c undef W') : jh P E ⟨d, .mapUpdate t m x y, ty, pos, af, g⟩ W c :=
 Cg [] hk K p a h hm q r o n
end
section
variable {dd : Bool}
variable {κ γ : Type} {Q : Value → γ → List (Nat × Obj) → Prop} {beq : κ → κ → Bool} {kenc : κ → Value}
variable {P : Program} {W : World} {kt : TypeId} {E : Nat → Value} {d : Option Nat} {ty : TypeId} {pos : String} {af : Array Edge} {g : Option (Nat × Bool)} {F : Nat → Prop} {w : World} {μ : gS} {L : List (Nat × Obj)}
variable {κ2 β : Type} {kenc2 : κ2 → Value} {vf : β → Value} {beq2 : κ2 → κ2 → Bool} {kt2 : TypeId}
theorem Cs {c : Value → World → Prop} {Y R R2 : List (Nat × Obj)} {t e : TypeId} {m x y : Operand} {b : Value} {j : List (κ × Value)} {l i : List (κ × γ)} {k : κ} {u : Value} {z : γ} (K : jC P kt kenc beq) (q : P.underlying t = some (.map kt e)) (a : ST dd F w W μ (R ++ (R2 ++ Y))) (h : iX kenc Q b j l R) (hm : gz E m = b) (r : gz E x = kenc k) (s : gz E y = u) (p : Q u z R2) (o : wG beq l k z = some i) (n : ∀ W' R', ST dd F w W' μ (R' ++ Y) → iX kenc Q b (iN beq j k u) i R' → c undef W') : jh P E ⟨d, .mapUpdate t m x y, ty, pos, af, g⟩ W c :=
 BU [] K q a h hm r s p o n
end
section
variable {dd : Bool}
variable {κ γ : Type} {Q : Value → γ → List (Nat × Obj) → Prop} {beq : κ → κ → Bool} {kenc : κ → Value}
variable {P : Program} {W : World} {kt : TypeId} {E : Nat → Value} {d : Option Nat} {ty : TypeId} {pos : String} {af : Array Edge} {g : Option (Nat × Bool)} {F : Nat → Prop} {w : World} {μ : gS} {L : List (Nat × Obj)}
theorem EB {c : Value → World → Prop} {Y R R1 : List (Nat × Obj)} {t e : TypeId} {m x y : Operand} {b : Value} {i : List (κ × Value)} {l : List (κ × γ)} {k : κ} {u : Value} {z : γ} (K : jC P kt kenc beq) (o : P.underlying t = some (.map kt e)) (a : ST dd F w W μ (R ++ (R1 ++ Y))) (h : Bf beq kenc Q b i l k R) (hm : gz E m = b) (p : gz E x = kenc k) (q : gz E y = u) (n : Q u z R1) (j : ∀ W' R', ST dd F w W' μ (R' ++ Y) → iX kenc Q b (iN beq i k u) (iN beq l k z) R' → c undef W') : jh P E ⟨d, .mapUpdate t m x y, ty, pos, af, g⟩ W c :=
 EK [] K o a h hm p q n j
end
section
variable {dd : Bool}
variable {κ γ : Type} {Q : Value → γ → List (Nat × Obj) → Prop} {beq : κ → κ → Bool} {kenc : κ → Value}
variable {P : Program} {W : World} {kt : TypeId} {E : Nat → Value} {d : Option Nat} {ty : TypeId} {pos : String} {af : Array Edge} {g : Option (Nat × Bool)} {F : Nat → Prop} {w : World} {μ : gS} {L : List (Nat × Obj)}
theorem Bs {i : Value → World → Prop} {Y R : List (Nat × Obj)} {t e : TypeId} {m x : Operand} {c z : Value} {x0 : γ} {q : List (κ × Value)} {l : List (κ × γ)} {k : κ} (hk : ∀ {x y : κ}, beq x y = true ↔ x = y) (K : jC P kt kenc beq) (n : P.underlying t = some (.map kt e)) (p : ∀ w, (zeroValue e).run P w = .ok z w) (b : Q z x0 []) (a : ST dd F w W μ (R ++ Y)) (h : iX kenc Q c q l R) (hm : gz E m = c) (o : gz E x = kenc k) (j : ∀ W' v st R' R1, ST dd F w W' μ (R' ++ (R1 ++ Y)) → Q v ((gV beq l k).getD x0) R1 → yH beq kenc Q c l k st R' → i (.tuple #[v, .int .i64 (st : Nat)]) W') : jh P E ⟨d, .mapEntry t m x, ty, pos, af, g⟩ W i :=
 AV [] hk K n p b a h hm o j
end
section
variable {dd : Bool}
variable {κ γ : Type} {Q : Value → γ → List (Nat × Obj) → Prop} {beq : κ → κ → Bool} {kenc : κ → Value}
variable {P : Program} {W : World} {kt : TypeId} {E : Nat → Value} {d : Option Nat} {ty : TypeId} {pos : String} {af : Array Edge} {g : Option (Nat × Bool)} {F : Nat → Prop} {w : World} {μ : gS} {L : List (Nat × Obj)}
theorem zB {i : Value → World → Prop} {Y R R1 : List (Nat × Obj)} {t e : TypeId} {m s y : Operand} {c u : Value} {z : γ} {l : List (κ × γ)} {k : κ} {st : Nat} (hk : ∀ {x y : κ}, beq x y = true ↔ x = y) (K : jC P kt kenc beq) (a : ST dd F w W μ (R ++ (R1 ++ Y))) (h : yH beq kenc Q c l k st R) (hm : gz E m = c) (o : gz E s = .int .i64 (st : Nat)) (p : gz E y = u) (n : Q u z R1) (j : ∀ W' b R', ST dd F w W' μ (R' ++ Y) → iX kenc Q c b (iN beq l k z) R' → i undef W') : jh P E ⟨d, .entryStore t m s y, ty, pos, af, g⟩ W i :=
 zD (e := e) [] hk K a h hm o p n j
end
section
variable {dd : Bool}
variable {α : Type} {e : TypeId} {enc : α → List Value} {k : Nat} {v : Value} {l : List α} {R : List (Nat × Obj)}
variable {P : Program} {W : World} {E : Nat → Value} {d : Option Nat} {ty : TypeId} {pos : String} {af : Array Edge} {g : Option (Nat × Bool)} {F : Nat → Prop} {w : World} {μ : gS} {L : List (Nat × Obj)}
theorem zZ {K : Value → World → Prop} {t : TypeId} {a : Nat} {z vs : Value} {m r : List α} {Y : List (Nat × Obj)} {x y : Operand} {i : TypeInfo} (b : ST dd F w W μ (R ++ Y)) (hk : ∀ x, (enc x).length = k) (j : 0 < k) (h1 : ∀ x, ∀ u ∈ enc x, u.oneCell' = true) (I : P.underlying t = some (.slice e)) (A : P.info? e = some i) (M : i.zero = some z) (o : z.cells.size = k) (n : i.size = k) (c : i.bytes = a) (J : gz E x = v) (L : gz E y = vs) (q : kY e enc k v l R) (G : Sl (Pl enc) k (hp W) vs m) (s : je a l m = some r) (h : ∀ W' p R', ST dd F w W' μ (R' ++ Y) → kY e enc k p r R' → K p W') : jh P E ⟨d, .call ⟨.builtin .append, #[x, y], #[t, t]⟩, ty, pos, af, g⟩ W K :=
 zW [] b hk j h1 I A M o n c J L q G s h
end
end Go.Proofs.YtbnbdigcbldfhaaGreat
namespace Go.Proofs.YtbnbdigcbldfhaaGreat
open Go.RowKit
variable [M : Md]
section
variable {P : Program} {n : Nat} {Q : jW} {E : Nat → Value} {W : World} {ops : Array Oper} {rest : List Oper}
variable {d j t : Nat} {want : Bool} {v : Value} {ins : Go.Op} {ty : TypeId} {pos : String} {af : Array Edge} {A : Value → Prop}
theorem V (b : iu P E ⟨some d, ins, ty, pos, af, none⟩ W v W) (h : LW P n ops Q rest (jw E d v) W) (a : d < n := by decide) : LW P n ops Q (⟨some d, ins, ty, pos, af, none⟩ :: rest) E W := xK (.inl rfl) rfl a b h
theorem VE (h : jh P E ⟨some d, ins, ty, pos, af, none⟩ W fun v W' => LW P n ops Q rest (jw E d v) W') (a : d < n := by decide) : LW P n ops Q (⟨some d, ins, ty, pos, af, none⟩ :: rest) E W := EH (.inl rfl) rfl a h
theorem VO (h : jh P E ⟨none, ins, ty, pos, af, none⟩ W fun _ W' => LW P n ops Q rest E W') : LW P n ops Q (⟨none, ins, ty, pos, af, none⟩ :: rest) E W := Fb (.inl rfl) rfl h
theorem VQ (b : ∃ p, A p ∧ ∀ W, iu P E ⟨some d, ins, ty, pos, af, none⟩ W p W) (h : ∀ p, A p → LW P n ops Q rest (jw E d p) W) (a : d < n := by decide) : LW P n ops Q (⟨some d, ins, ty, pos, af, none⟩ :: rest) E W := EZ (.inl rfl) rfl a b h
theorem Vg (b : (ops[j]?).bind (·.dst) = some t) (a : E t = .bool want) (g : iu P E ⟨some d, ins, ty, pos, af, some (j, want)⟩ W v W) (h : LW P n ops Q rest (jw E d v) W) (i : t < n := by decide) (c : d < n := by decide) : LW P n ops Q (⟨some d, ins, ty, pos, af, some (j, want)⟩ :: rest) E W := xK (.inr ⟨j, want, t, rfl, b, i, a⟩) rfl c g h
theorem EM (b : (ops[j]?).bind (·.dst) = some t) (a : E t = .bool want) (h : jh P E ⟨some d, ins, ty, pos, af, some (j, want)⟩ W fun v W' => LW P n ops Q rest (jw E d v) W') (g : t < n := by decide) (c : d < n := by decide) : LW P n ops Q (⟨some d, ins, ty, pos, af, some (j, want)⟩ :: rest) E W := EH (.inr ⟨j, want, t, rfl, b, g, a⟩) rfl c h
theorem F2 (b : (ops[j]?).bind (·.dst) = some t) (a : E t = .bool want) (g : ∃ p, A p ∧ ∀ W, iu P E ⟨some d, ins, ty, pos, af, some (j, want)⟩ W p W) (h : ∀ p, A p → LW P n ops Q rest (jw E d p) W) (i : t < n := by decide) (c : d < n := by decide) : LW P n ops Q (⟨some d, ins, ty, pos, af, some (j, want)⟩ :: rest) E W := EZ (.inr ⟨j, want, t, rfl, b, i, a⟩) rfl c g h
theorem Vn (b : (ops[j]?).bind (·.dst) = some t) (a : E t = .bool (!want)) (h : LW P n ops Q rest (jw E d undef) W) (g : t < n := by decide) (c : d < n := by decide) : LW P n ops Q (⟨some d, ins, ty, pos, af, some (j, want)⟩ :: rest) E W := Fe rfl c rfl b g a h
theorem Vu (b : (ops[j]?).bind (·.dst) = some t) (a : E t = undef) (h : LW P n ops Q rest (jw E d undef) W) (g : t < n := by decide) (c : d < n := by decide) : LW P n ops Q (⟨some d, ins, ty, pos, af, some (j, want)⟩ :: rest) E W := En rfl c rfl b g a h
end
section
variable {P : Program} {n : Nat} {Q : jW} {E : Nat → Value} {W : World} {ops : Array Oper} {S : Array Bool → World → Prop} {fuel : Nat} {listed : Array Bool} {μ : gS} {B : List (Nat × Obj)}
variable {d j t : Nat} {want : Bool} {v : Value} {ins : Go.Op} {ty : TypeId} {pos : String} {af : Array Edge} {A : Value → Prop}
theorem X (i : Nat) (b : ops[i]? = some ⟨some d, ins, ty, pos, af, none⟩) (a : S (listed.setIfInBounds i true) W) (g : ∀ {W}, iu P E ⟨some d, ins, ty, pos, af, none⟩ W v W) (h : PX P n ops Q S fuel (listed.setIfInBounds i true) (jw E d v) W) (hk : sE ops listed i = true := by kernel_rfl) (hm : ∀ l w, S (l.setIfInBounds i true) w → S l w := by exact fun _ _ h => h) (c : d < n := by decide) : PX P n ops Q S (fuel + 1) listed E W := jB i b hk (.inl rfl) rfl c hm a (fun _ _ _ _ => g) h
theorem XH (i : Nat) (b : ops[i]? = some ⟨some d, ins, ty, pos, af, none⟩) (a : my μ B W) (g : ∀ W, my μ B W → iu P E ⟨some d, ins, ty, pos, af, none⟩ W v W) (h : PX P n ops Q (fun _ W => my μ B W) fuel (listed.setIfInBounds i true) (jw E d v) W) (hk : sE ops listed i = true := by kernel_rfl) (c : d < n := by decide) : PX P n ops Q (fun _ W => my μ B W) (fuel + 1) listed E W := jB i b hk (.inl rfl) rfl c (fun _ _ h => h) a (fun _ W _ h => g W h) h
theorem XQ (i : Nat) (b : ops[i]? = some ⟨some d, ins, ty, pos, af, none⟩) (a : S (listed.setIfInBounds i true) W) (g : ∃ p, A p ∧ ∀ W, iu P E ⟨some d, ins, ty, pos, af, none⟩ W p W) (h : ∀ p, A p → PX P n ops Q S fuel (listed.setIfInBounds i true) (jw E d p) W) (hk : sE ops listed i = true := by kernel_rfl) (hm : ∀ l w, S (l.setIfInBounds i true) w → S l w := by exact fun _ _ h => h) (c : d < n := by decide) : PX P n ops Q S (fuel + 1) listed E W := A2 i b hk (.inl rfl) rfl c hm a g h
theorem XE (i : Nat) (a : ops[i]? = some ⟨some d, ins, ty, pos, af, none⟩) (h : jh P E ⟨some d, ins, ty, pos, af, none⟩ W fun v W' => S (listed.setIfInBounds i true) W' ∧ PX P n ops Q S fuel (listed.setIfInBounds i true) (jw E d v) W') (c : Region.ready .any ops listed = [i] := by kernel_rfl) (b : d < n := by decide) : PX P n ops Q S (fuel + 1) listed E W := ER i a c (.inl rfl) rfl b h
theorem XO (i : Nat) (a : ops[i]? = some ⟨none, ins, ty, pos, af, none⟩) (h : jh P E ⟨none, ins, ty, pos, af, none⟩ W fun _ W' => S (listed.setIfInBounds i true) W' ∧ PX P n ops Q S fuel (listed.setIfInBounds i true) E W') (b : Region.ready .any ops listed = [i] := by kernel_rfl) : PX P n ops Q S (fuel + 1) listed E W := Fl i a b (.inl rfl) rfl h
theorem Xg (i : Nat) (c : ops[i]? = some ⟨some d, ins, ty, pos, af, some (j, want)⟩) (g : (ops[j]?).bind (·.dst) = some t) (a : E t = .bool want) (b : S (listed.setIfInBounds i true) W) (o : ∀ {W}, iu P E ⟨some d, ins, ty, pos, af, some (j, want)⟩ W v W) (h : PX P n ops Q S fuel (listed.setIfInBounds i true) (jw E d v) W) (hk : sE ops listed i = true := by kernel_rfl) (hm : ∀ l w, S (l.setIfInBounds i true) w → S l w := by exact fun _ _ h => h) (m : t < n := by decide) (k : d < n := by decide) : PX P n ops Q S (fuel + 1) listed E W := jB i c hk (.inr ⟨j, want, t, rfl, g, m, a⟩) rfl k hm b (fun _ _ _ _ => o) h
theorem pJ (i : Nat) (c : ops[i]? = some ⟨some d, ins, ty, pos, af, some (j, want)⟩) (g : (ops[j]?).bind (·.dst) = some t) (a : E t = .bool want) (b : my μ B W) (m : ∀ W, my μ B W → iu P E ⟨some d, ins, ty, pos, af, some (j, want)⟩ W v W) (h : PX P n ops Q (fun _ W => my μ B W) fuel (listed.setIfInBounds i true) (jw E d v) W) (hk : sE ops listed i = true := by kernel_rfl) (l : t < n := by decide) (k : d < n := by decide) : PX P n ops Q (fun _ W => my μ B W) (fuel + 1) listed E W := jB i c hk (.inr ⟨j, want, t, rfl, g, l, a⟩) rfl k (fun _ _ h => h) b (fun _ W _ h => m W h) h
theorem xT (i : Nat) (b : ops[i]? = some ⟨some d, ins, ty, pos, af, some (j, want)⟩) (c : (ops[j]?).bind (·.dst) = some t) (a : E t = .bool want) (h : jh P E ⟨some d, ins, ty, pos, af, some (j, want)⟩ W fun v W' => S (listed.setIfInBounds i true) W' ∧ PX P n ops Q S fuel (listed.setIfInBounds i true) (jw E d v) W') (k : Region.ready .any ops listed = [i] := by kernel_rfl) (l : t < n := by decide) (g : d < n := by decide) : PX P n ops Q S (fuel + 1) listed E W := ER i b k (.inr ⟨j, want, t, rfl, c, l, a⟩) rfl g h
theorem Xn (i : Nat) (c : ops[i]? = some ⟨some d, ins, ty, pos, af, some (j, want)⟩) (g : (ops[j]?).bind (·.dst) = some t) (a : E t = .bool (!want)) (b : S (listed.setIfInBounds i true) W) (h : PX P n ops Q S fuel (listed.setIfInBounds i true) (jw E d undef) W) (hk : sE ops listed i = true := by kernel_rfl) (hm : ∀ l w, S (l.setIfInBounds i true) w → S l w := by exact fun _ _ h => h) (m : t < n := by decide) (k : d < n := by decide) : PX P n ops Q S (fuel + 1) listed E W := Ff i c hk rfl g m a rfl k hm b h
theorem Xu (i : Nat) (c : ops[i]? = some ⟨some d, ins, ty, pos, af, some (j, want)⟩) (g : (ops[j]?).bind (·.dst) = some t) (a : E t = undef) (b : S (listed.setIfInBounds i true) W) (h : PX P n ops Q S fuel (listed.setIfInBounds i true) (jw E d undef) W) (hk : sE ops listed i = true := by kernel_rfl) (hm : ∀ l w, S (l.setIfInBounds i true) w → S l w := by exact fun _ _ h => h) (m : t < n := by decide) (k : d < n := by decide) : PX P n ops Q S (fuel + 1) listed E W := EG i c hk rfl g m a rfl k hm b h
end
end Go.Proofs.YtbnbdigcbldfhaaGreat
namespace Go.Proofs.YtbnbdigcbldfhaaGreat
open Go.RowKit
section
variable {α β γ : Type}
inductive lo (Q : α → β → Prop) : List α → List β → Prop
 | nil : lo Q [] []
 | cons {a : α} {b : β} {l : List α} {m : List β} : Q a b → lo Q l m → lo Q (a :: l) (b :: m)
namespace lo
variable {Q Q' : α → β → Prop}
theorem length {l : List α} {m : List β} (h : lo Q l m) : l.length = m.length := by
 induction h with
 | nil => rfl
 | cons _ _ ih => simp [ih]
theorem imp {l : List α} {m : List β} (h : lo Q l m) (c : ∀ a b, Q a b → Q' a b) : lo Q' l m := by
 induction h with
 | nil => exact .nil
 | cons h1 _ ih => exact .cons (c _ _ h1) ih
theorem get {l : List α} {m : List β} (h : lo Q l m) : ∀ {i : Nat} {b : β}, m[i]? = some b → ∃ a, l[i]? = some a ∧ Q a b := by
 induction h with
 | nil => intro i b c; simp at c
 | cons h1 _ ih =>
  intro i b c
  cases i with
  | zero => simp at c; subst c; exact ⟨_, rfl, h1⟩
  | succ i => simpa using ih (by simpa using c)
theorem append {l a : List α} {m b : List β} (h : lo Q l m) (c : lo Q a b) : lo Q (l ++ a) (m ++ b) := by
 induction h with
 | nil => exact c
 | cons h1 _ ih => exact .cons h1 ih
theorem set {l : List α} {m : List β} (h : lo Q l m) {a : α} {b : β} (d : Q a b) : ∀ i : Nat, lo Q (l.set i a) (m.set i b) := by
 induction h with
 | nil => intro i; exact .nil
 | cons h1 c ih =>
  intro i
  cases i with
  | zero => exact .cons d c
  | succ i => exact .cons h1 (ih i)
theorem take {l : List α} {m : List β} (h : lo Q l m) : ∀ i : Nat, lo Q (l.take i) (m.take i) := by
 induction h with
 | nil => intro i; simp; exact .nil
 | cons h1 _ ih =>
  intro i
  cases i with
  | zero => exact .nil
  | succ i => exact .cons h1 (ih i)
theorem drop {l : List α} {m : List β} (h : lo Q l m) : ∀ i : Nat, lo Q (l.drop i) (m.drop i) := by
 induction h with
 | nil => intro i; simp; exact .nil
 | cons h1 a ih =>
  intro i
  cases i with
  | zero => exact .cons h1 a
  | succ i => exact ih i
end lo
theorem vT {P : Nat → β → α → Prop} : ∀ {m : List β} (o : Nat), (∀ (i : Nat) (b : β), m[i]? = some b → ∃ a, P (o + i) b a) → ∃ l : List α, l.length = m.length ∧ ∀ (i : Nat) (b : β), m[i]? = some b → ∃ a, l[i]? = some a ∧ P (o + i) b a
 | [], _, _ => ⟨[], rfl, fun i b h => by simp at h⟩
 | b :: m, o, h => by
  obtain ⟨a, d⟩ := h 0 b rfl
  obtain ⟨l, h1, j⟩ := vT (m := m) (o + 1) (fun i b k => by
   obtain ⟨a, d⟩ := h (i + 1) b (by simpa using k)
   exact ⟨a, by rw [show o + 1 + i = o + (i + 1) by omega]; exact d⟩)
  refine ⟨a :: l, by simp [h1], fun i c g => ?_⟩
  cases i with
  | zero => simp at g; subst g; exact ⟨a, rfl, d⟩
  | succ i =>
   obtain ⟨x, n, hp⟩ := j i c (by simpa using g)
   exact ⟨x, by simpa using n, by rw [show o + (i + 1) = o + 1 + i by omega]; exact hp⟩
theorem lo.Ck {Q : α → β → Prop} : ∀ {l : List α} {m : List β}, l.length = m.length → (∀ (i : Nat) (a : α) (b : β), l[i]? = some a → m[i]? = some b → Q a b) → lo Q l m
 | [], [], _, _ => .nil
 | [], _ :: _, h, _ => by cases h
 | _ :: _, [], h, _ => by cases h
 | a :: l, b :: m, h, c => .cons (c 0 a b rfl rfl) (lo.Ck (by simpa using h) (fun i x y d g => c (i + 1) x y (by simpa using d) (by simpa using g)))
end
structure Deep {β : Type} (R : nM β) (k : Nat) : Prop where
 mono : yC R
 len : ∀ {μ ys x}, R μ ys x → ys.length = k
 one : ∀ {μ ys x}, R μ ys x → ∀ u ∈ ys, u.oneCell' = true
abbrev py (k : Nat) := {ys : List Value // ys.length = k ∧ ∀ u ∈ ys, u.oneCell' = true}
def oC {k : Nat} (c : py k) : List Value := c.1
theorem uL {k : Nat} (x : py k) : (oC x).length = k := x.2.1
theorem FL {k : Nat} (x : py k) : ∀ u ∈ oC x, u.oneCell' = true := x.2.2
theorem Sl.Bp {α : Type} {R : nM α} {k : Nat} {μ : gS} {v : Value} {l : List α} (h : Sl R k μ v l) : v.oneCell' = true := by
 obtain ⟨A, c, rfl, _⟩ := h; rfl
section
variable {β : Type} {Rl : nM β} {k : Nat} {μ μ' : gS} {v : Value} {l : List β}
def Deep.cell (a : Deep Rl k) {ys : List Value} {x : β} (h : Rl μ ys x) : py k := ⟨ys, a.len h, a.one h⟩
theorem Sl.raw (w : Deep Rl k) (h : Sl Rl k μ v l) : ∃ cl : List (py k), Sl (Pl oC) k μ v cl ∧ lo (fun c x => Rl μ c.1 x) cl l := by
 obtain ⟨A, c, rfl, h1, r, t⟩ := h
 cases l with
 | nil => exact ⟨[], ⟨A, c, rfl, h1, r, fun h => absurd h (by simp)⟩, .nil⟩
 | cons x0 l =>
  obtain ⟨b, off, cs, T, fr, rfl, E, u⟩ := t (by simp)
  obtain ⟨cl, o, q⟩ := vT (P := fun i x (c : py k) => Rl μ c.1 x ∧ ∀ j y, c.1[j]? = some y → cs[off + i * k + j]? = some y) (m := x0 :: l) 0 (fun i x p => by
   obtain ⟨ys, _, d, g⟩ := u i x p
   exact ⟨w.cell d, d, by rw [de]; exact g⟩)
  refine ⟨cl, ⟨_, c, by rw [o], by omega, r, fun _ => ⟨b, off, cs, T, fr, rfl, E, fun i c n => ?_⟩⟩, lo.Ck o (fun i c x n p => ?_)⟩
  ·have G : i < (x0 :: l).length := by rw [← o]; exact (aw.1 n).1
   obtain ⟨s, a, _, g⟩ := q i _ (bE G)
   rw [n] at a; cases a
   exact ⟨c.1, c.2.1, rfl, by rw [de] at g; exact g⟩
  ·obtain ⟨s, a, d, _⟩ := q i x p
   rw [n] at a; cases a
   exact d
theorem Sl.B6 {cl : List (py k)} (h : Sl (Pl oC) k μ v cl) (t : gZ μ μ') (a : lo (fun c x => Rl μ' c.1 x) cl l) : Sl Rl k μ' v l := by
 obtain ⟨A, c, rfl, h1, n, o⟩ := h
 have d := a.length
 refine ⟨A, c, by rw [d], by omega, n, fun w => ?_⟩
 obtain ⟨b, off, cs, T, fr, rfl, q, p⟩ := o (by omega)
 refine ⟨b, off, cs, T, fr, rfl, t _ _ q, fun i x u => ?_⟩
 obtain ⟨c, r, s⟩ := a.get u
 obtain ⟨ys, g, j, m⟩ := p i c r
 cases j
 exact ⟨oC c, g, s, m⟩
def xZ (Rl : nM β) (k : Nat) (μ : gS) (W : World) (v : Value) (l : List β) : Prop := ∃ cl : List (py k), Sl (Pl oC) k (hp W) v cl ∧ lo (fun c x => Rl μ c.1 x) cl l
theorem xZ.sl (b : Deep Rl k) {W : World} (h : Sl Rl k μ v l) (c : gZ μ (hp W)) : xZ Rl k μ W v l := by
 obtain ⟨cl, h1, a⟩ := h.raw b
 exact ⟨cl, h1.mono (Pl.mono _) c, a⟩
theorem Sl.C9 {b m : Nat} {cl : List (py k)} {cs : Array Value} {e : TypeId} (hm : cl.length = m) (a : m ≤ maxLen) (d : cs.toList = (cl.map oC).flatten) (c : μ b = some (.cells cs e (0, 0))) : Sl (Pl oC) k μ (.slice (some ⟨b, 0, none⟩) m m) cl := by
 subst hm
 refine ⟨_, _, rfl, aJ _, a, fun _ => ⟨b, 0, _, _, _, rfl, c, fun i x g => ⟨oC x, uL x, rfl, fun j y h => ?_⟩⟩⟩
 have := pZ uL cl i x g j y h
 rw [← d] at this
 simpa using this
inductive tN (Rl : nM β) (k : Nat) (μ : gS) : List Value → List β → Prop
 | nil : tN Rl k μ [] []
 | cons {ys zs : List Value} {x : β} {l : List β} : Rl μ ys x → tN Rl k μ zs l → tN Rl k μ (ys ++ zs) (x :: l)
theorem tN.cells (b : Deep Rl k) {ys : List Value} (h : tN Rl k μ ys l) : ∃ cl : List (py k), (cl.map oC).flatten = ys ∧ lo (fun c x => Rl μ c.1 x) cl l := by
 induction h with
 | nil => exact ⟨[], rfl, .nil⟩
 | cons h1 _ ih =>
  obtain ⟨cl, e, a⟩ := ih
  exact ⟨b.cell h1 :: cl, by rw [aM, bB, e]; rfl, .cons h1 a⟩
theorem xZ.lit (d : Deep Rl k) {W : World} {b m : Nat} {ys : List Value} {e : TypeId} (h : tN Rl k μ ys l) (hm : l.length = m) (g : m ≤ maxLen) (i : W.heap[b]? = some (.cells ys.toArray e (0, 0))) : xZ Rl k μ W (.slice (some ⟨b, 0, none⟩) m m) l := by
 obtain ⟨cl, c, a⟩ := h.cells d
 exact ⟨cl, Sl.C9 (by rw [a.length]; exact hm) g c.symm i, a⟩
theorem Sl.imp {R R' : nM β} (h : Sl R k μ v l) (p : ∀ ys x, R μ ys x → R' μ ys x) : Sl R' k μ v l := by
 obtain ⟨A, c, rfl, h1, a, d⟩ := h
 refine ⟨A, c, rfl, h1, a, fun q => ?_⟩
 obtain ⟨b, off, cs, T, fr, rfl, o, g⟩ := d q
 exact ⟨b, off, cs, T, fr, rfl, o, fun i x r => let ⟨ys, j, m, n⟩ := g i x r; ⟨ys, j, p _ _ m, n⟩⟩
theorem Bw {α : Type} {enc : α → List Value} {k : Nat} : Deep (xl enc k) 1 where
 mono := xl.mono _ _
 len := by rintro _ _ _ ⟨v, rfl, h⟩; rfl
 one := by rintro _ _ _ ⟨v, rfl, h⟩ u hu; rw [aA] at hu; subst hu; exact h.Bp
def lY (e : TypeId) (Rl : nM β) (k : Nat) (μ : gS) (v : Value) (l : List β) (B : List (Nat × Obj)) : Prop := ∃ cl : List (py k), gM e oC k v cl B ∧ lo (fun c x => Rl μ c.1 x) cl l
variable {e : TypeId} {B : List (Nat × Obj)}
theorem lY.mono (b : Deep Rl k) (h : lY e Rl k μ v l B) (c : gZ μ μ') : lY e Rl k μ' v l B := by
 obtain ⟨cl, h1, a⟩ := h
 exact ⟨cl, h1, a.imp (fun _ _ h => b.mono _ _ _ _ c h)⟩
theorem lY.nil (e : TypeId) (Rl : nM β) (k : Nat) (μ : gS) : lY e Rl k μ (.slice none 0 0) [] [] := ⟨[], gM.nil _ _ _, .nil⟩
theorem lY.lit (d : Deep Rl k) {b m : Nat} {ys : List Value} (h : tN Rl k μ ys l) (hm : l.length = m) (g : m ≤ maxLen) (i : ys.length = m * k) : lY e Rl k μ (.slice (some ⟨b, 0, none⟩) m m) l [(b, .cells ys.toArray e (0, 0))] := by
 obtain ⟨cl, c, a⟩ := h.cells d
 exact ⟨cl, gM.lit (by rw [a.length]; exact hm) g c.symm (by simpa using i), a⟩
theorem lY.form (h : lY e Rl k μ v l B) : ∃ A c, v = .slice A l.length c := by
 obtain ⟨cl, h1, a⟩ := h
 rw [← a.length]; exact h1.form
theorem lY.len (h : lY e Rl k μ v l B) : l.length ≤ 9223372036854775807 := by
 obtain ⟨cl, h1, a⟩ := h
 rw [← a.length]; exact h1.len
theorem lY.nd (h : lY e Rl k μ v l B) : (B.map (·.1)).Nodup := let ⟨_, h1, _⟩ := h; h1.nd
theorem lY.isNil {n c : Nat} (h : lY e Rl k μ (.slice none n c) l B) : l = [] := by
 obtain ⟨cl, h1, a⟩ := h
 have := a.length
 rw [h1.isNil] at this
 exact bL this.symm
theorem lY.sl (h : lY e Rl k μ v l B) (c : Deep Rl k) (d : gZ μ μ') (hm : ∀ b o, (b, o) ∈ B → μ' b = some o) : Sl Rl k μ' v l := by
 obtain ⟨cl, h1, a⟩ := h
 exact Sl.B6 (h1.sl uL hm) (gZ.refl _) (a.imp (fun _ _ h => c.mono _ _ _ _ d h))
end
section
variable {β : Type} {Rl : nM β} {k : Nat} {μ : gS} {v : Value} {l : List β} {e : TypeId} {B : List (Nat × Obj)}
variable {dd : Bool} {F : Nat → Prop} {w W : World} {L : List (Nat × Obj)}
theorem lY.Fu (h : lY e Rl k μ v l B) (b : Deep Rl k) (a : ST dd F w W μ L) (c : ∀ p, p ∈ B → p ∈ L) : Sl Rl k (hp W) v l := h.sl b a.iH (fun _ _ d => a.at_ (c _ d))
theorem xZ.row (h : lY e Rl k μ v l B) (a : ST dd F w W μ L) (c : ∀ p, p ∈ B → p ∈ L) : xZ Rl k μ W v l := let ⟨cl, h1, b⟩ := h; ⟨cl, h1.Fu uL a c, b⟩
theorem lY.B0 (h : lY e Rl k μ v l B) (a : ST dd ia w W μ L) (b : ∀ p, p ∈ B → p ∈ L) : Fr w.heap.size v := let ⟨_, h1, _⟩ := h; h1.B0 a b
theorem ST.FK {Y : List (Nat × Obj)} (d : Deep Rl k) (a : ST dd F w W μ (B ++ Y)) (h : lY e Rl k μ v l B) : ∃ μ', ST dd F w W μ' Y ∧ gZ μ μ' ∧ Lo F w μ μ' ∧ Sl Rl k μ' v l := by
 obtain ⟨cl, h1, c⟩ := h
 obtain ⟨μ', b, a2, a4, a3⟩ := ST.wz a h1 uL
 exact ⟨μ', b, a2, a4, Sl.B6 a3 (gZ.refl _) (c.imp (fun _ _ h => d.mono _ _ _ _ a2 h))⟩
variable {P : Program} {E : Nat → Value} {d : Option Nat} {ty : TypeId} {pos : String} {af : Array Edge} {g : Option (Nat × Bool)}
theorem CF {α d : Type} {a : Nat} {l m r : List α} {b c : List d} (h : je a l m = some r) (h1 : b.length = l.length) (g : c.length = m.length) : je a b c = some (b ++ c) ∧ r = l ++ m := by
 unfold je at h ⊢
 rw [h1, g]
 split at h
 ·rename_i i; cases h; rw [ak i]; exact ⟨rfl, rfl⟩
 ·cases h
theorem BV {K : Value → World → Prop} {t : TypeId} {a : Nat} {z vs : Value} {m r : List β} {Y : List (Nat × Obj)} {x y : Operand} {i : TypeInfo} (Z : Deep Rl k) (c : ST dd F w W μ (B ++ Y)) (o : 0 < k) (O : P.underlying t = some (.slice e)) (L : P.info? e = some i) (T : i.zero = some z) (q : z.cells.size = k) (p : i.size = k) (n : i.bytes = a) (Q : gz E x = v) (R : gz E y = vs) (I : lY e Rl k μ v l B) (M : xZ Rl k μ W vs m) (J : je a l m = some r) (h : ∀ W' b R', ST dd F w W' μ (R' ++ Y) → lY e Rl k μ b r R' → K b W') : jh P E ⟨d, .call ⟨.builtin .append, #[x, y], #[t, t]⟩, ty, pos, af, g⟩ W K := by
 obtain ⟨cl, h1, s⟩ := I
 obtain ⟨U, G, u⟩ := M
 obtain ⟨j, rfl⟩ := CF J s.length u.length
 exact jJ c uL o FL O L T q p n Q R h1 G j (fun W' b R' A a2 => h W' b R' A ⟨_, a2, s.append u⟩)
end
end Go.Proofs.YtbnbdigcbldfhaaGreat
namespace Go.Proofs.YtbnbdigcbldfhaaGreat
open Go.RowKit
def oQ (dd : Bool) (P : Program) (f : FuncId) (args : List Value) (w : World) (μ0 : gS) (L0 : List (Nat × Obj)) (K : Value → List (Nat × Obj) → gS → Prop) : Prop :=
 Calls P f args.toArray w fun e a => ∃ v L1 μ1, e = .returned v ∧ mL dd L0 L1 w a ∧ gZ μ0 μ1 ∧ Lo (keys L0) w μ0 μ1 ∧ gZ μ1 (mG a L1) ∧ K v L1 μ1
theorem oQ.ki {dd : Bool} {P : Program} {f : FuncId} {args : List Value} {w : World} {μ0 : gS} {L0 : List (Nat × Obj)} {K : Value → List (Nat × Obj) → gS → Prop} (h : oQ true P f args w μ0 L0 K) : oQ dd P f args w μ0 L0 K :=
 bf h fun _ _ ⟨v, L1, μ1, h1, a, b⟩ => ⟨v, L1, μ1, h1, a.ki, b⟩
section
variable {dd : Bool} {F : Nat → Prop} {w W W' : World} {μ μ1 : gS} {L L0 L1 L2 : List (Nat × Obj)}
theorem ST.E7 (h : ST dd F w W μ (L0 ++ L)) (g : mL dd L0 L1 W W') (i : Lo (keys L0) W μ μ1) (d : gZ μ1 (mG W' L1)) : ST dd F w W' μ1 (L1 ++ L) := by
 have h1 := h.back g
 refine ⟨h1.os, h1.tape, h1.output, h1.drawn, h1.size, h1.iG, fun b o hm => ?_, fun b o a => ?_, h1.nd⟩
 ·have := d b o hm
  unfold mG at this
  split at this
  ·cases this
  ·exact this
 ·obtain ⟨j, l, k⟩ := h1.box b o a
  refine ⟨j, ?_, k⟩
  rcases aG.1 a with a | a
  ·cases hm : μ1 b with
   | none => rfl
   | some x =>
    have := d b x hm
    unfold mG at this
    rw [ak ⟨o, a⟩] at this
    cases this
  ·have c := h.box b o (aZ _ a)
   rw [i b (jI c.1) (vt h.nd a)]
   exact c.2.1
variable {P : Program} {E : Nat → Value} {d : Option Nat} {ty : TypeId} {pos : String} {af : Array Edge} {g : Option (Nat × Bool)}
theorem C4 {K : Value → World → Prop} {K' : Value → List (Nat × Obj) → gS → Prop} {f : FuncId} {fv : Operand} {ax : Array Operand} {ats : Array TypeId} {caps : Array Value} {args : List Value} (L0 L2 : List (Nat × Obj)) (a : ST dd F w W μ L) (c : L.Perm (L0 ++ L2)) (u : gz E fv = .func (.func f) #[] caps) (he : ∀ args w, (callFunc f args).run P w = .ok (.enter f args) w) (r : ax.map (gz E) ++ (#[] : Array Value) = args.toArray) (t : sW L0 W → (L0.map (·.1)).Nodup → gZ μ (mG W L0) → (∀ b o, (b, o) ∈ L2 → mG W L0 b = some o) → oQ dd P f (args ++ caps.toList) W μ L0 K') (h : ∀ W' v μ' L1, ST dd F w W' μ' (L1 ++ L2) → gZ μ μ' → Lo F w μ μ' → K' v L1 μ' → K v W') : jh P E ⟨d, .call ⟨.value fv, ax, ats⟩, ty, pos, af, g⟩ W K := by
 have i : ax.map (gz E) = args.toArray := by simpa using r
 refine vp (args := (args ++ caps.toList).toArray) u he (by rw [i]; simp) (bf (t (a.held c) (a.Bk c) (a.Ba c) (a.AE c)) (fun _ W' ⟨v, L1, μ1, h1, k, l, j, m, n⟩ => ⟨v, h1, h W' v μ1 L1 ((a.perm c).E7 k j m) l (fun b s p => j b (ct s a.size) (fun ⟨o, x⟩ => by
  rcases ((a.perm c).box b o (aR _ x)).2.2 with q | q
  ·omega
  ·exact p q)) n⟩))
end
theorem ow.Bp {κ γ : Type} {kenc : κ → Value} {Q : Value → γ → List (Nat × Obj) → Prop} {μ : gS} {v : Value} {l : List (κ × γ)} (h : ow kenc Q μ v l) : v.oneCell' = true := by
 obtain ⟨a, R, h, _⟩ := h
 obtain ⟨m, rfl⟩ := h.form
 rfl
theorem kL.Bp {κ β : Type} {kenc : κ → Value} {vf : β → Value} {μ : gS} {v : Value} {l : List (κ × β)} (h : kL kenc vf μ v l) : v.oneCell' = true := by
 obtain ⟨m, rfl⟩ := h.form
 rfl
variable [M : Md]
section
variable {dd : Bool}
variable {β : Type} {Rl : nM β} {k : Nat} {μ : gS} {v : Value} {l : List β} {e : TypeId} {B : List (Nat × Obj)}
variable {F : Nat → Prop} {w W : World} {L : List (Nat × Obj)}
variable {P : Program} {E : Nat → Value} {d : Option Nat} {ty : TypeId} {pos : String} {af : Array Edge} {g : Option (Nat × Bool)}
theorem zt {α : Type} {enc : α → List Value} (hk : ∀ x, (enc x).length = k) (c : 0 < k) (d : ∀ x y, enc x = enc y → x = y) : ∀ {l m : List α}, (l.map enc).flatten = (m.map enc).flatten → l = m
 | [], [], _ => rfl
 | [], b :: m, h => by
  have := ap List.length h
  simp only [eO, et, bx, aM, bB, an, hk] at this
  omega
 | a :: l, [], h => by
  have := ap List.length h
  simp only [eO, et, bx, aM, bB, an, hk] at this
  omega
 | a :: l, b :: m, h => by
  simp only [aM, bB] at h
  obtain ⟨h1, g⟩ := List.append_inj h (by rw [hk, hk])
  rw [d _ _ h1, zt hk c d g]
theorem FI (x y : py k) (h : oC x = oC y) : x = y := Subtype.ext h
theorem gM.pre {v1 : Value} {cl a : List (py k)} (d : 0 < k) (h : gM e oC k v cl B) (h1 : gM e oC k v1 a B) (c : a.length ≤ cl.length) : a = cl.take a.length := by
 rcases h with ⟨rfl, rfl, rfl⟩ | ⟨g', cap, b, rfl, rfl, p, q, r, n⟩
 ·simp at c; simp [c]
 ·rcases h1 with ⟨_, _, h⟩ | ⟨g1, g, i, rfl, j, o, a2, a3, a4⟩
  ·cases h
  ·cases j
   refine zt uL d FI ?_
   rw [← a4]
   have hle : a.length * k ≤ cl.length * k := aS _ c
   have : b.toList.take (a.length * k) = (b.toList.take (cl.length * k)).take (a.length * k) := by rw [eb, bP hle]
   rw [this, n]
   have l : (cl.map oC).flatten = ((cl.take a.length).map oC).flatten ++ ((cl.drop a.length).map oC).flatten := by rw [← dm, ← aO, List.take_append_drop]
   have m : ((cl.take a.length).map oC).flatten.length = a.length * k := by rw [lu uL, bH, bP c]
   rw [l, ← m, List.take_left]
theorem lo.replicate {α β : Type} {Q : α → β → Prop} {a : α} {b : β} (h : Q a b) : ∀ n, lo Q (List.replicate n a) (List.replicate n b)
 | 0 => .nil
 | n + 1 => .cons h (lo.replicate h n)
end
end Go.Proofs.YtbnbdigcbldfhaaGreat
