/- a part of a proof of LeastNeeds -/
import Derived.WalkKit
import Derived.WalkLawsBesides
import Derived.Maps.AppendAt
import Derived.OrdersHeld
import Derived.Laws.IdiomStrings
import Derived.Maps.RangeRun
import Derived.Lib.BytesEntry
import Derived.Lib.Bytealg
import Derived.Laws.Externs
import Derived.ChangeKeysEq
import Derived.Deep.AppendSrc
set_option linter.all false
namespace Go.Proofs.YtklbhegeiijbjaaGreat
open Go.RowKit
def aA := @Option.bind_some
def aB := @Bool.false_eq_true
def aF := @List.length_append
def aG := @if_false
def aH := @Int.natCast_nonneg
def aI := @List.drop_length
def aJ := @List.length_cons
def aM := @List.append_assoc
def aN := @if_true
def aQ := @List.mem_cons
def aT := @Nat.exists_eq_succ_of_ne_zero
def aU := @List.eq_nil_of_length_eq_zero
def aV := @run_underlying
def aW := @List.mem_append
def aX := @if_pos
def aY := @List.Perm.refl
def aZ := @Nat.le_refl
def bA := @beq_self_eq_true
def bB := @if_neg
def bD := @List.nil_append
def bE := @List.cons.injEq
def bF := @Nat.lt_succ_self
def bG := @List.append_nil
def bJ := @Bool.and_eq_true
def bL := @congrArg
def bM := @List.getElem?_eq_some_iff
def bN := @List.mem_map
def bO := @decide_eq_true_eq
def bP := @List.map_cons
def bQ := @Result.andThen_ok
def bR := @List.flatten_cons
def bT := @Bool.eq_iff_iff
def bU := @Bool.not_true
def bV := @List.length_nil
def bY := @List.cons_append
def bZ := @decide_true
def cC := @decide_false
def cE := @List.nodup_append
def cH := @List.mem_filter
def cI := @Nat.mul_le_mul_right
def cJ := @List.Perm.append_left
def cK := @Sem.run_bind
def cL := @List.map_append
def cM := @List.mem_singleton
def cN := @List.pairwise_cons
def cO := @List.mem_append_left
def cP := @Nat.add_mul
def cQ := @List.length_take
def cT := @List.flatten_append
def cY := @List.pairwise_append
def cZ := @Bool.not_false
def dB := @List.getElem?_eq_getElem
def dD := @List.length_map
def dE := @Nat.min_eq_left
def dF := @Nat.le_trans
def dG := @Addr.add_lit
def dH := @Sem.run_pure
def dI := @List.eq_nil_or_concat
def dJ := @Array.length_toList
def dL := @List.flatten_nil
def dM := @List.not_mem_nil
def dN := @List.take_of_length_le
def dO := @Int.toNat_natCast
def dP := @List.mem_of_getElem?
def dS := @and_true
def dT := @Array.getElem?_toList
def dU := @Array.getElem?_eq_some_iff
def dV := @List.size_toArray
def dY := @List.getElem?_drop
def dZ := @Calls.mono
def eB := @List.nodup_cons
def eE := @List.getElem?_take_of_lt
def eF := @List.filter_cons
def eH := @List.concat_eq_append
def eK := @DataW.trod_struct
def eO := @Bool.true_and
def eP := @List.length_drop
def eU := @Array.getElem?_modify
def eV := @List.mem_append_right
def eW := @Bool.eq_false_or_eq_true
def eY := @Nat.lt_of_lt_of_le
def eZ := @List.length_eq_zero_iff
def fB := @List.any_eq_true
def fC := @List.findIdx?_eq_some_iff_getElem
def fE := @Option.map_some
def fG := @Nat.eq_zero_or_pos
def fH := @List.length_zipIdx
def fI := @Nat.add_assoc
def fJ := @List.map_map
def fL := @Nat.zero_le
def fM := @List.ext_getElem?
def fN := @Array.getD_eq_getD_getElem?
def fO := @Nat.zero_add
def fV := @List.take_append
def fW := @Bool.not_eq_true
def fX := @List.getElem?_append_right
def fY := @List.findIdx?_cons
def fZ := @List.perm_append_comm
def gC := @List.take_append_drop
def gD := @List.length_filter_le
def gE := @Classical.byContradiction
def gF := @List.getElem?_set
def gG := @List.getElem?_map
def gH := @List.mem_cons_of_mem
def gI := @List.map_nil
def gM := @List.sum_cons
def gN := @ByteArray.toList_eq
def gO := @List.perm_middle
def gP := @List.all_eq_true
def gS := @List.getElem?_take
def gU := @List.find?_cons
def gV := @or_false
def gW := @Bool.or_eq_true
def iw := @List.getElem?_eq_none
def iy := @Function.comp_def
def iz := @List.pairwise_map
def iA := @Option.some.injEq
def iB := @of_decide_eq_true
def iC := @List.perm_append_comm_assoc
def iD := @Bool.not_eq_true'
def iE := @cell_of_row
def iF := @List.getElem?_append
def iG := @List.take_take
def iH := @Nat.eq_of_mul_eq_mul_right
def iJ := @List.perm_append_singleton
def iK := @Bool.false_and
def iN := @List.getElem?_append_left
def iO := @List.findIdx?_eq_none_iff
def iP := @List.filter_eq_self
def iS := @List.any_cons
def iT := @Oper.upon_value
def iU := @Oper.upon_enter
def iV := @List.foldl_cons
def iY := @beq_iff_eq
def iZ := @eq_iff_iff
def ja := @List.find?_eq_none
def jb := @List.getElem?_cons_zero
def jc := @List.pairwise_mergeSort
def jd := @List.pairwise_singleton
def je := @Oper.upon_skip
def jf := @List.drop_take
def jg := @List.findIdx?_map
def jh := @Nat.add_zero
def ji := @List.Perm.append_right
def jj := @List.take_left
def jm := @Bool.and_assoc
def jo := @Bool.not_not
def jq := @List.flatMap_cons
def jr := @List.singleton_append
def js := @Nat.div_lt_iff_lt_mul
def jt := @List.mem_flatten
def ju := @Option.getD_some
def jw := @List.all_cons
def jx := @List.findIdx?_append
def jy := @List.forall_mem_cons
def jA := @List.length_set
def jB := @Option.some.inj
def jD := @List.filter_nil
def jE := @List.Perm.nodup_iff
def jF := @run_callFunc_extern
def jG := @List.mergeSort_perm
def jH := @List.flatMap_append
def jI := @List.take_length_add_append
def jL := @run_loadCells_list
def jM := @List.map_mergeSort
def jO := @List.filter_append
def jP := @UInt8.toNat_lt
def jQ := @Nat.le_succ
def jR := @run_storeCells_at
def jW := @UInt8.ofNat_toNat
def jX := @List.find?_append
def jY := @ByteArray.ext
def kd := @Bool.and_self
def ke := @List.zipIdx_cons
def ki := @List.mem_flatMap
def ku := @Nat.one_mul
def kv := @getD_set_ne
def kA := @mem_ready
def oI (E : Nat → Value) (d : Nat) (v : Value) : Nat → Value := fun t => if t = d then v else E t
def kV (E : Nat → Value) : Operand → Value
 | .tmp t => E t
 | .const v => v
 | .global g => .pointer (some ⟨g, 0, none⟩)
 | .func f => .func (.func f) #[] #[]
def Ag (n : Nat) (a : Act) (E : Nat → Value) : Prop := a.tmps.size = n ∧ a.defers = [] ∧ ∀ t, a.tmps.getD t undef = E t
section
variable {n : Nat} {a : Act} {E : Nat → Value}
theorem Ag.eval (h : Ag n a E) : a.eval = kV E := by
 funext x
 cases x with
 | tmp t => exact h.2.2 t
 | const v => rfl
 | global g => rfl
 | func f => rfl
theorem Ag.put (h : Ag n a E) {d : Nat} (i : d < n) (v : Value) : Ag n (a.put (some d) v) (oI E d v) := by
 refine ⟨by simp [Act.put, h.1], h.2.1, fun t => ?_⟩
 have g := h.2.2 t
 simp only [Act.put, oI]
 by_cases b : t = d
 ·subst b
  simp [h.1, i]
 ·have : ¬ d = t := fun e => b e.symm
  rw [bB b, ← g]
  simp [fN, this]
theorem Ag.Aq (h : Ag n a E) (v : Value) : Ag n (a.put none v) E := h
theorem Ag.yield (h : Ag n a E) {ops : Array Oper} {j t : Nat} {b : Bool} (g : (ops[j]?).bind (·.dst) = some t) (k : t < n) (l : E t = .bool b) : yielded ops a.tmps j = some b := by
 have d := h.2.2 t
 have i : a.tmps[t]? = some (E t) := by
  rw [← d]
  simp [fN, h.1, k]
 simp [yielded, g, i, l]
end
abbrev qK := Exit → (Nat → Value) → World → Prop
def lift (n : Nat) (Q : qK) : Exit → Act → World → Prop
 | .panic _, _, _ => False
 | .outgrown, _, _ => False
 | e, a, w => ∃ E, Ag n a E ∧ Q e E w
def CW (P : Program) (n : Nat) (c : Code) (Q : qK) (E : Nat → Value) (W : World) : Prop := ∀ a, Ag n a E → c.wp P (lift n Q) a W
def LW (P : Program) (n : Nat) (ops : Array Oper) (Q : qK) (l : List Oper) (E : Nat → Value) (W : World) : Prop := ∀ a, Ag n a E → wpList P ops (lift n Q) l a W
def rb (K : (Nat → Value) → World → Prop) (Q : qK) : qK
 | .normal, E, W => K E W
 | e, E, W => Q e E W
def xC (id : Nat) (Q : qK) : qK
 | .exit j, E, W => if j = id then Q .normal E W else Q (.exit j) E W
 | e, E, W => Q e E W
section
variable {P : Program} {n : Nat} {Q : qK} {E : Nat → Value} {W : World} {c x y : Code} {ops : Array Oper} {rest : List Oper} {o : Oper}
theorem H7 {Q' : qK} (h : CW P n c Q E W) (g : ∀ e E W, Q e E W → Q' e E W) : CW P n c Q' E W := fun a ha =>
 wp_mono (h a ha) (fun e _ _ h => by
  cases e with
  | panic c => exact h
  | outgrown => exact h
  | _ => obtain ⟨E', b, d⟩ := h; exact ⟨E', b, g _ _ _ d⟩)
theorem kZ (h : CW P n x (rb (fun E W => CW P n y Q E W) Q) E W) : CW P n (.seq x y) Q E W := fun a ha =>
 wp_seq (wp_mono (h a ha) (fun e d i h => by
  cases e with
  | normal => obtain ⟨E', b, g⟩ := h; exact g d b
  | _ => exact h))
theorem mr (h : Q .normal E W) : CW P n .skip Q E W := fun _ ha => wp_skip ⟨E, ha, h⟩
theorem lC (h : Q .ret E W) : CW P n .ret Q E W := fun _ ha => wp_ret ⟨E, ha, h⟩
theorem nT {id : Nat} (h : Q (.exit id) E W) : CW P n (.exit id) Q E W := fun _ ha => wp_exit ⟨E, ha, h⟩
theorem mK {id : Nat} (h : CW P n c (xC id Q) E W) : CW P n (.block id c) Q E W := fun a ha =>
 wp_block (wp_mono (h a ha) (fun e i k h => by
  cases e with
  | exit j =>
   obtain ⟨E', b, d⟩ := h
   simp only [Exit.inBlock]
   simp only [xC] at d
   split at d
   ·rename_i g; rw [aX g]; exact ⟨E', b, d⟩
   ·rename_i g; rw [bB g]; exact ⟨E', b, d⟩
  | _ => exact h))
theorem M1 {co : Operand} {b : Bool} (d : kV E co = .bool b) (i : b = true → CW P n x Q E W) (g : b = false → CW P n y Q E W) : CW P n (.cond co x y) Q E W := fun a ha => by
 refine wp_cond_split (t := b) (by rw [ha.eval]; exact d) (fun h => i h a ha) (fun h => g h a ha)
theorem vr {co : Operand} (a : kV E co = .bool true) (h : CW P n x Q E W) : CW P n (.cond co x y) Q E W := M1 a (fun _ => h) (fun h => by cases h)
theorem rT {co : Operand} (a : kV E co = .bool false) (h : CW P n y Q E W) : CW P n (.cond co x y) Q E W := M1 a (fun h => by cases h) (fun _ => h)
theorem kW {id : Nat} {l : List Oper} (h : LW P n l.toArray Q l E W) : CW P n (.region id l.toArray false) Q E W := fun a ha => wp_region_lit (h a ha)
theorem lH (h : Q .normal E W) : LW P n ops Q [] E W := fun _ ha => wpList_nil ⟨E, ha, h⟩
theorem Jf {P : Program} {c : Code} {Q : Exit → Act → World → Prop} {a : Act} {w : World} (I : Nat → Act → World → Prop) (m : Nat) (u : I m a w) (round : ∀ m a w, I m a w → c.wp P (Exit.then (fun q r => ∃ y, y < m ∧ I y q r) Q) a w) : (Code.loop c).wp P Q a w := by
 intro b k cs
 have key : ∀ m a w, I m a w → ∃ e q r, Q e q r ∧ Arrives P (lone (b.at a (.code c :: .inLoop c :: k)) cs w) b k cs e q r := by
  intro m
  induction m using Nat.strongRecOn with
  | _ m ih =>
   intro a w A
   obtain ⟨e, g, h, j, d⟩ := round m a w A b (.inLoop c :: k) cs
   cases e with
   | normal =>
    obtain ⟨y, z, n⟩ := j
    obtain ⟨t, s, v, p, i⟩ := ih y z g h n
    exact ⟨t, s, v, p, .of_steps (Steps.trans d (.one step_inLoop)) i⟩
   | exit id => exact ⟨_, g, h, j, .pass (x := .inLoop c) rfl (fun _ _ => .inl (by simp)) d⟩
   | goto l => exact ⟨_, g, h, j, .pass (x := .inLoop c) rfl (fun _ _ => .inl (by simp)) d⟩
   | ret => exact ⟨_, g, h, j, .pass (x := .inLoop c) rfl (fun _ _ => .inl (by simp)) d⟩
   | panic D => exact ⟨_, g, h, j, .pass (x := .inLoop c) rfl (fun _ _ => .inl (by simp)) d⟩
   | outgrown => exact ⟨_, g, h, j, .pass (x := .inLoop c) rfl (fun _ _ => .inl (by simp)) d⟩
 obtain ⟨e, q, r, j, d⟩ := key m a w u
 exact ⟨e, q, r, j, .of_steps (.one step_loop) d⟩
theorem nZ (I : Nat → (Nat → Value) → World → Prop) (m : Nat) (b : I m E W) (round : ∀ m E W, I m E W → CW P n c (rb (fun E' W' => ∃ d, d < m ∧ I d E' W') Q) E W) : CW P n (.loop c) Q E W := fun a ha =>
 Jf (fun m a w => ∃ E, Ag n a E ∧ I m E w) m ⟨E, ha, b⟩ (fun m a w ⟨E, ha, k⟩ =>
  wp_mono (round m E w k a ha) (fun e l p h => by
   cases e with
   | normal => obtain ⟨E', i, d, j, g⟩ := h; exact ⟨d, j, E', i, g⟩
   | _ => exact h))
def ul (n : Nat) (ops : Array Oper) (E : Nat → Value) (o : Oper) : Prop :=
 o.guard = none ∨ ∃ j want t, o.guard = some (j, want) ∧ (ops[j]?).bind (·.dst) = some t ∧ t < n ∧ E t = .bool want
theorem ul.of {a : Act} (h : ul n ops E o) (ha : Ag n a E) : Region.wanted o (yielded ops a.tmps) = true := by
 rcases h with h | ⟨j, want, t, d, g, i, b⟩
 ·simp [Region.wanted, h]
 ·simp [Region.wanted, d, ha.yield g i b]
theorem Oc {d : Nat} {v : Value} {W' : World} (hw : ul n ops E o) (b : o.dst = some d) (g : d < n) (i : (execOp (kV E) o).run P W = .ok (.value v) W') (h : LW P n ops Q rest (oI E d v) W') : LW P n ops Q (o :: rest) E W := fun a ha => by
 unfold wpList
 rw [aX (hw.of ha)]
 refine .inl ?_
 unfold Oper.wp
 rw [ha.eval, i, iT, b]
 exact h _ (ha.put g v)
theorem O7 {W' : World} (hw : ul n ops E o) (b : o.dst = none) (d : (execOp (kV E) o).run P W = .ok .skip W') (h : LW P n ops Q rest E W') : LW P n ops Q (o :: rest) E W := fun a ha => by
 unfold wpList
 rw [aX (hw.of ha)]
 refine .inl ?_
 unfold Oper.wp
 rw [ha.eval, d, je, b]
 exact h _ (ha.Aq _)
theorem Pv {f : FuncId} {args : Array Value} {d : Nat} (hw : ul n ops E o) (g : o.dst = some d) (j : d < n) (k : (execOp (kV E) o).run P W = .ok (.enter f args) W) (h : Calls P f args W fun e b => ∃ v, e = .returned v ∧ LW P n ops Q rest (oI E d v) b) : LW P n ops Q (o :: rest) E W := fun a ha => by
 unfold wpList
 rw [aX (hw.of ha)]
 refine .inl ?_
 unfold Oper.wp
 rw [ha.eval, k, iU]
 refine h.mono ?_
 rintro e b ⟨v, rfl, i⟩
 simp only [g]
 exact i _ (ha.put j v)
theorem SX {d j t : Nat} {want : Bool} (g : o.dst = some d) (l : d < n) (i : o.guard = some (j, want)) (k : (ops[j]?).bind (·.dst) = some t) (m : t < n) (b : E t = .bool (!want)) (h : LW P n ops Q rest (oI E d undef) W) : LW P n ops Q (o :: rest) E W := fun a ha => by
 unfold wpList
 have p := ha.yield k m b
 rw [bB (by simp [Region.wanted, i, p])]
 rw [g]
 exact h _ (ha.put l _)
end
end Go.Proofs.YtklbhegeiijbjaaGreat
namespace Go.Proofs.YtklbhegeiijbjaaGreat
open Go.RowKit
variable {dd : Bool}
abbrev lQ := Nat → Option Obj
def hp (W : World) : lQ := fun b => W.heap[b]?
def ve (dd : Bool) (a b : Nat) : Prop := dd = true → a ≤ b
theorem ve.of {dd : Bool} {a b : Nat} (h : a ≤ b) : ve dd a b := fun _ => h
theorem ve.trans {dd : Bool} {a b c : Nat} (h : ve dd a b) (k : ve dd b c) : ve dd a c := fun e => dF (h e) (k e)
structure Ex (dd : Bool) (w W : World) : Prop where
 os : W.os = w.os
 tape : W.tape = w.tape
 output : W.output = w.output
 drawn : ve dd w.drawn W.drawn
 size : w.heap.size ≤ W.heap.size
 nI : ∀ b, b < w.heap.size → W.heap[b]? = w.heap[b]?
theorem Ex.refl (w : World) : Ex dd w w := ⟨rfl, rfl, rfl, ve.of (aZ _), aZ _, fun _ _ => rfl⟩
theorem Ex.trans {a b c : World} (h : Ex dd a b) (k : Ex dd b c) : Ex dd a c :=
 ⟨k.os.trans h.os, k.tape.trans h.tape, k.output.trans h.output, ve.trans h.drawn k.drawn, dF h.size k.size, fun i d => (k.nI i (eY d h.size)).trans (h.nI i d)⟩
theorem Ex.drew (w : World) : Ex dd w w.drew := ⟨rfl, rfl, rfl, ve.of (jQ _), aZ _, fun _ _ => rfl⟩
theorem Ex.alloc (w : World) (o : Obj) : Ex dd w (w.alloc o) := ⟨rfl, rfl, rfl, ve.of (aZ _), by show w.heap.size ≤ (w.heap.push o).size; simp, fun k hk => Below.heap_alloc w o k hk⟩
theorem Ex.mR {w W : World} (h : Ex true w W) : Ex dd w W := ⟨h.os, h.tape, h.output, ve.of (h.drawn rfl), h.size, h.nI⟩
def lu (μ μ' : lQ) : Prop := ∀ b o, μ b = some o → μ' b = some o
theorem lu.refl (μ : lQ) : lu μ μ := fun _ _ h => h
theorem lu.trans {a b c : lQ} (h : lu a b) (k : lu b c) : lu a c := fun x o d => k x o (h x o d)
structure ST (dd : Bool) (F : Nat → Prop) (w W : World) (μ : lQ) (L : List (Nat × Obj)) : Prop where
 os : W.os = w.os
 tape : W.tape = w.tape
 output : W.output = w.output
 drawn : ve dd w.drawn W.drawn
 size : w.heap.size ≤ W.heap.size
 nI : ∀ b, b < w.heap.size → ¬ F b → W.heap[b]? = w.heap[b]?
 mem : ∀ b o, μ b = some o → W.heap[b]? = some o
 box : ∀ b o, (b, o) ∈ L → W.heap[b]? = some o ∧ μ b = none ∧ (w.heap.size ≤ b ∨ F b)
 nd : (L.map (·.1)).Nodup
def lU : Nat → Prop := fun _ => False
theorem ST.start (w : World) : ST dd lU w w (hp w) [] :=
 ⟨rfl, rfl, rfl, ve.of (aZ _), aZ _, fun _ _ _ => rfl, fun _ _ h => h, fun _ _ h => (by cases h), by simp⟩
section
variable {F : Nat → Prop} {w W W' : World} {μ μ' : lQ} {L L' : List (Nat × Obj)}
theorem ST.ex (h : ST dd lU w W μ L) : Ex dd w W := ⟨h.os, h.tape, h.output, h.drawn, h.size, fun b a => h.nI b a (fun x => x)⟩
theorem PO (W : World) (o : Obj) : (W.alloc o).heap[W.heap.size]? = some o := heap_alloc_new W o
theorem ph {W : World} {b : Nat} {o : Obj} (h : W.heap[b]? = some o) : b < W.heap.size := (dU.1 h).1
theorem ST.drew (h : ST dd F w W μ L) : ST dd F w W.drew μ L :=
 ⟨h.os, h.tape, h.output, ve.trans h.drawn (ve.of (jQ _)), h.size, h.nI, h.mem, h.box, h.nd⟩
theorem ST.G0 (h : ST dd F w W μ L) {b : Nat} {o : Obj} (a : (b, o) ∈ L) : b < W.heap.size := ph (h.box b o a).1
theorem ST.alloc (h : ST dd F w W μ L) (o : Obj) : ST dd F w (W.alloc o) μ ((W.heap.size, o) :: L) := by
 refine ⟨h.os, h.tape, h.output, h.drawn, dF h.size (Ex.alloc (dd := true) W o).size, fun b a j => ?_, fun b d a => ?_, fun b d a => ?_, ?_⟩
 ·rw [(Ex.alloc (dd := true) W o).nI b (eY a h.size)]; exact h.nI b a j
 ·have := h.mem b d a
  rw [(Ex.alloc (dd := true) W o).nI b (ph this)]; exact this
 ·rcases aQ.1 a with e | a
  ·cases e
   refine ⟨PO W o, ?_, .inl h.size⟩
   cases hm : μ W.heap.size with
   | none => rfl
   | some x => have := ph (h.mem _ _ hm); omega
  ·obtain ⟨h1, g, i⟩ := h.box b d a
   exact ⟨by rw [(Ex.alloc (dd := true) W o).nI b (ph h1)]; exact h1, g, i⟩
 ·simp only [bP, eB]
  refine ⟨fun hm => ?_, h.nd⟩
  obtain ⟨⟨b, d⟩, a, e⟩ := bN.1 hm
  have := h.G0 a
  simp at e
  omega
theorem ST.put {A B : List (Nat × Obj)} {b : Nat} {o n : Obj} (h : ST dd F w W μ (A ++ (b, o) :: B)) (t : W'.os = W.os ∧ W'.tape = W.tape ∧ W'.output = W.output ∧ W.drawn ≤ W'.drawn ∧ W'.heap.size = W.heap.size) (g : ∀ k, k ≠ b → W'.heap[k]? = W.heap[k]?) (u : W'.heap[b]? = some n) : ST dd F w W' μ (A ++ (b, n) :: B) := by
 obtain ⟨h1, p, q, r, s⟩ := t
 have d := h.box b o (by simp)
 have a := h.nd
 simp only [cL, bP] at a
 have i : ∀ x o, (x, o) ∈ A → x ≠ b := fun x o l e => by
  subst e
  have := (cE.1 a).2.2 x (bN.2 ⟨_, l, rfl⟩) x (by simp)
  exact this rfl
 have j : ∀ x o, (x, o) ∈ B → x ≠ b := fun x o l e => by
  subst e
  have := (eB.1 (cE.1 a).2.1).1
  exact this (bN.2 ⟨_, l, rfl⟩)
 refine ⟨h1.trans h.os, p.trans h.tape, q.trans h.output, ve.trans h.drawn (ve.of r), by rw [s]; exact h.size, fun k hk m => ?_, fun k x hk => ?_, fun k x hk => ?_, by simpa using a⟩
 ·rw [g k (fun e => by subst e; rcases d.2.2 with h | h; omega; exact m h)]
  exact h.nI k hk m
 ·rw [g k (fun e => by subst e; rw [d.2.1] at hk; cases hk)]
  exact h.mem k x hk
 ·rcases aW.1 hk with hk | hk
  ·rw [g k (i k x hk)]; exact h.box k x (by simp [hk])
  ·rcases aQ.1 hk with e | hk
   ·cases e; exact ⟨u, d.2⟩
   ·rw [g k (j k x hk)]; exact h.box k x (by simp [hk])
def Lo (F : Nat → Prop) (w : World) (μ μ' : lQ) : Prop := ∀ b, b < w.heap.size → ¬ F b → μ' b = μ b
theorem Lo.refl {F : Nat → Prop} {w : World} {μ : lQ} : Lo F w μ μ := fun _ _ _ => rfl
theorem Lo.trans {F : Nat → Prop} {w : World} {a b c : lQ} (h : Lo F w a b) (k : Lo F w b c) : Lo F w a c := fun x g d => (k x g d).trans (h x g d)
def grow (μ : lQ) (W W' : World) : lQ := fun b => if b < W.heap.size then μ b else W'.heap[b]?
theorem ST.FC (h : ST dd F w W μ L) {b : Nat} {o : Obj} (a : μ b = some o) : b < W.heap.size := ph (h.mem b o a)
theorem ST.call (h : ST dd F w W μ L) (d : Ex dd W W') : ST dd F w W' (grow μ W W') L := by
 refine ⟨d.os.trans h.os, d.tape.trans h.tape, d.output.trans h.output, ve.trans h.drawn d.drawn, dF h.size d.size, fun b a k => ?_, fun b o a => ?_, fun b o a => ?_, h.nd⟩
 ·rw [d.nI b (eY a h.size)]; exact h.nI b a k
 ·unfold grow at a
  split at a
  ·rename_i g; rw [d.nI b g]; exact h.mem b o a
  ·exact a
 ·obtain ⟨h1, i, j⟩ := h.box b o a
  exact ⟨by rw [d.nI b (ph h1)]; exact h1, by unfold grow; rw [aX (ph h1)]; exact i, j⟩
theorem ST.OT (h : ST dd F w W μ L) (W' : World) : lu μ (grow μ W W') := fun b o a => by
 unfold grow; rw [aX (h.FC a)]; exact a
theorem ST.mR (h : ST dd F w W μ' L) (d : lu μ μ') : ST dd F w W μ L :=
 ⟨h.os, h.tape, h.output, h.drawn, h.size, h.nI, fun b o a => h.mem b o (d b o a), fun b o a => by
  obtain ⟨h1, g, i⟩ := h.box b o a
  refine ⟨h1, ?_, i⟩
  cases hm : μ b with
  | none => rfl
  | some x => (have := d b x hm; rw [g] at this; cases this), h.nd⟩
theorem ST.Jy (h : ST dd F w W μ L) (a : Ex dd W W') : ST dd F w W' μ L := (h.call a).mR (h.OT W')
theorem ST.kM (h : ST dd F w W μ L) : lu μ (hp W) := h.mem
def LU (μ : lQ) (b : Nat) (o : Obj) : lQ := fun k => if k = b then some o else μ k
theorem ST.Is {A B : List (Nat × Obj)} {b : Nat} {o : Obj} (h : ST dd F w W μ (A ++ (b, o) :: B)) : ST dd F w W (LU μ b o) (A ++ B) := by
 have g := h.box b o (by simp)
 have a := h.nd
 simp only [cL, bP] at a
 have j : ∀ x y, (x, y) ∈ A ++ B → x ≠ b := fun x y d e => by
  subst e
  rcases aW.1 d with d | d
  ·exact (cE.1 a).2.2 x (bN.2 ⟨_, d, rfl⟩) x (by simp) rfl
  ·exact (eB.1 (cE.1 a).2.1).1 (bN.2 ⟨_, d, rfl⟩)
 refine ⟨h.os, h.tape, h.output, h.drawn, h.size, h.nI, fun k x hk => ?_, fun k x hk => ?_, ?_⟩
 ·unfold LU at hk
  split at hk
  ·rename_i e; cases hk; rw [e]; exact g.1
  ·exact h.mem k x hk
 ·have i : (k, x) ∈ A ++ (b, o) :: B := by
   rcases aW.1 hk with h | h <;> simp [h]
  obtain ⟨h1, l, m⟩ := h.box k x i
  exact ⟨h1, by unfold LU; rw [bB (j k x hk)]; exact l, m⟩
 ·have : (A ++ B).Sublist (A ++ (b, o) :: B) := List.Sublist.append (List.Sublist.refl A) (List.sublist_cons_self _ _)
  exact List.Nodup.sublist (this.map _) h.nd
theorem ST.H6 {A B : List (Nat × Obj)} {b : Nat} {o : Obj} (h : ST dd F w W μ (A ++ (b, o) :: B)) : lu μ (LU μ b o) := fun k x hk => by
 unfold LU
 split
 ·rename_i e; subst e; rw [(h.box k o (by simp)).2.1] at hk; cases hk
 ·exact hk
theorem ST.Ov {A B : List (Nat × Obj)} {b : Nat} {o : Obj} (h : ST dd F w W μ (A ++ (b, o) :: B)) : Lo F w μ (LU μ b o) := fun k hk d => by
 refine bB (fun e => ?_)
 subst e
 rcases (h.box k o (by simp)).2.2 with a | a
 ·omega
 ·exact d a
theorem ST.drop {A B : List (Nat × Obj)} {p : Nat × Obj} (h : ST dd F w W μ (A ++ p :: B)) : ST dd F w W μ (A ++ B) :=
 (h.Is (b := p.1) (o := p.2)).mR h.H6
end
abbrev rA (α : Type) := lQ → List Value → α → Prop
def Sl {α : Type} (R : rA α) (k : Nat) (μ : lQ) (v : Value) (l : List α) : Prop :=
 ∃ A c, v = .slice A l.length c ∧ l.length ≤ c ∧ c ≤ maxLen ∧ (0 < l.length → ∃ b off cs T fr, A = some ⟨b, off, none⟩ ∧ μ b = some (.cells cs T fr) ∧
  ∀ i x, l[i]? = some x → ∃ ys, ys.length = k ∧ R μ ys x ∧ ∀ j y, ys[j]? = some y → cs[off + i * k + j]? = some y)
def At (μ : lQ) (v : Value) (ys : List Value) : Prop :=
 ∃ b off cs T fr, v = .pointer (some ⟨b, off, none⟩) ∧ μ b = some (.cells cs T fr) ∧ ∀ j y, ys[j]? = some y → cs[off + j]? = some y
def Fr (B : Nat) (v : Value) : Prop := ∀ b, v.ownBlock = some b → B ≤ b
def Jw {α : Type} (R : rA α) : Prop := ∀ μ μ' ys x, lu μ μ' → R μ ys x → R μ' ys x
def Pl {α : Type} (enc : α → List Value) : rA α := fun _ ys x => ys = enc x
theorem Pl.mono {α : Type} (enc : α → List Value) : Jw (Pl enc) := fun _ _ _ _ _ h => h
theorem Sl.mono {α : Type} {R : rA α} (t : Jw R) {k : Nat} {μ μ' : lQ} {v : Value} {l : List α} (h : Sl R k μ v l) (d : lu μ μ') : Sl R k μ' v l := by
 obtain ⟨A, c, h1, g, j, m⟩ := h
 refine ⟨A, c, h1, g, j, fun u => ?_⟩
 obtain ⟨b, off, cs, T, fr, n, p, q⟩ := m u
 exact ⟨b, off, cs, T, fr, n, d _ _ p, fun i x w => let ⟨ys, r, s, a⟩ := q i x w; ⟨ys, r, t _ _ _ _ d s, a⟩⟩
theorem At.mono {μ μ' : lQ} {v : Value} {ys : List Value} (h : At μ v ys) (g : lu μ μ') : At μ' v ys := by
 obtain ⟨b, off, cs, T, fr, h1, a, d⟩ := h
 exact ⟨b, off, cs, T, fr, h1, g _ _ a, d⟩
theorem Sl.len {α : Type} {R : rA α} {k : Nat} {μ : lQ} {v : Value} {l : List α} (h : Sl R k μ v l) : l.length ≤ 9223372036854775807 := by
 obtain ⟨A, c, h1, b, a, d⟩ := h
 unfold maxLen at a
 omega
theorem Sl.nil {α : Type} (R : rA α) (k : Nat) (μ : lQ) : Sl R k μ (.slice none 0 0) [] := ⟨none, 0, rfl, aZ _, by decide, fun h => absurd h (by simp)⟩
theorem Fr.mono {B B' : Nat} {v : Value} (h : Fr B v) (a : B' ≤ B) : Fr B' v := fun b d => dF a (h b d)
theorem Fr.nil (B : Nat) : Fr B (.slice none 0 0) := fun b a => by simp [Value.ownBlock] at a
end Go.Proofs.YtklbhegeiijbjaaGreat
namespace Go.Proofs.YtklbhegeiijbjaaGreat
open Go.RowKit
variable {dd : Bool}
section
variable {P : Program} {n : Nat} {Q : qK} {E : Nat → Value} {W : World} {ops : Array Oper} {rest : List Oper}
 {d : Option Nat} {ty : TypeId} {pos : String} {af : Array Edge} {g : Option (Nat × Bool)}
 {F : Nat → Prop} {w : World} {μ : lQ} {L : List (Nat × Obj)}
def nc (P : Program) (E : Nat → Value) (o : Oper) (W : World) (v : Value) (W' : World) : Prop := (execOp (kV E) o).run P W = .ok (.value v) W'
theorem Io {o : Oper} {dd : Nat} {v : Value} (hw : ul n ops E o) (a : o.dst = some dd) (b : dd < n) (d : nc P E o W v W) (h : LW P n ops Q rest (oI E dd v) W) : LW P n ops Q (o :: rest) E W := Oc hw a b d h
theorem kT {x : Operand} {v : Value} (a : kV E x = v) : nc P E ⟨d, .move x, ty, pos, af, g⟩ W v W := by rw [← a]; rfl
theorem od {x : Operand} {v : Value} (a : kV E x = v) : nc P E ⟨d, .assign x, ty, pos, af, g⟩ W v W := by rw [← a]; rfl
theorem lj {c x y : Operand} {v : Value} (a : kV E c = .bool true) (b : kV E x = v) : nc P E ⟨d, .pick c x y, ty, pos, af, g⟩ W v W := by
 show (do pure (.value (if ← asBool (kV E c) then kV E x else kV E y)) : Sem Next).run P W = _
 rw [a, ← b]; simp [asBool]
theorem ll {c x y : Operand} {v : Value} (a : kV E c = .bool false) (b : kV E y = v) : nc P E ⟨d, .pick c x y, ty, pos, af, g⟩ W v W := by
 show (do pure (.value (if ← asBool (kV E c) then kV E x else kV E y)) : Sem Next).run P W = _
 rw [a, ← b]; simp [asBool]
theorem Fi {x : Operand} {i : Nat} {vs : Array Value} {v : Value} (b : kV E x = .tuple vs) (a : vs[i]? = some v) : nc P E ⟨d, .extract x i, ty, pos, af, g⟩ W v W := by
 show (do pure (.value (← Instr.extract (kV E x) i)) : Sem Next).run P W = _
 rw [b]; simp [Instr.extract, a]
theorem ol {u : TypeId} {x : Operand} {b : Bool} (a : kV E x = .bool b) : nc P E ⟨d, .unOp .not u x, ty, pos, af, g⟩ W (.bool !b) W := by
 show (do pure (.value (← Op.unary .not (kV E x))) : Sem Next).run P W = _
 rw [a]; simp [Op.unary]
theorem MH {fn : Fn} {first caps : Array Operand} {v : Value} (a : .func fn (first.map (kV E)) (caps.map (kV E)) = v) : nc P E ⟨d, .makeFunc fn first caps, ty, pos, af, g⟩ W v W := by
 show (do pure (.value (← Instr.makeFunc fn (first.map (kV E)) (caps.map (kV E)))) : Sem Next).run P W = _
 rw [← a]; simp [Instr.makeFunc]
def Js (k : IntKind) (op : BinOp) (a b : Int) : Option Value :=
 match op with
 | .eql => some (.bool (a == b))
 | .neq => some (.bool (a != b))
 | .lss => some (.bool (decide (a < b)))
 | .leq => some (.bool (decide (a ≤ b)))
 | .gtr => some (.bool (decide (a > b)))
 | .geq => some (.bool (decide (a ≥ b)))
 | .add => some (.int k (k.wrap (a + b)))
 | .sub => some (.int k (k.wrap (a - b)))
 | .mul => some (.int k (k.wrap (a * b)))
 | _ => none
theorem lR {op : BinOp} {h m : TypeId} {x y : Operand} {k : IntKind} {a b : Int} {v : Value} (j : kV E x = .int k a) (l : kV E y = .int k b) (i : Js k op a b = some v) :
  nc P E ⟨d, .binOp op h x y m, ty, pos, af, g⟩ W v W := by
 show (do let r ← (do eqGuard op h x y (kV E x) (kV E y); binOp op h (kV E x) (kV E y)); pure (.value r) : Sem Next).run P W = _
 rw [j, l]
 cases op <;> simp [Js] at i <;> subst i <;> simp [eqGuard, binOp, Op.intCmp, Op.intArith]
def Qk (op : BinOp) (a b : ByteArray) : Option Value :=
 match op with
 | .eql => some (.bool (a.toList == b.toList))
 | .neq => some (.bool !(a.toList == b.toList))
 | .lss => some (.bool (Op.bytesLess a.toList b.toList))
 | .leq => some (.bool (Op.bytesLess a.toList b.toList || a.toList == b.toList))
 | .gtr => some (.bool !(Op.bytesLess a.toList b.toList || a.toList == b.toList))
 | .geq => some (.bool !(Op.bytesLess a.toList b.toList))
 | _ => none
def xD (a b : ByteArray) : Option ByteArray := if ((a.size + b.size : Nat) : Int) > IntKind.i64.max then none else some (a ++ b)
theorem rR {op : BinOp} {h l : TypeId} {x y : Operand} {a b : ByteArray} {v : Value} (j : kV E x = .string a) (k : kV E y = .string b) (i : Qk op a b = some v) :
  nc P E ⟨d, .binOp op h x y l, ty, pos, af, g⟩ W v W := by
 show (do let r ← (do eqGuard op h x y (kV E x) (kV E y); binOp op h (kV E x) (kV E y)); pure (.value r) : Sem Next).run P W = _
 rw [j, k]
 cases op <;> simp [Qk] at i <;> subst i <;> simp [eqGuard, binOp, Op.stringOp]
theorem xR {i l : TypeId} {x y : Operand} {a b r : ByteArray} (j : kV E x = .string a) (k : kV E y = .string b) (h : xD a b = some r) :
  nc P E ⟨d, .binOp .add i x y l, ty, pos, af, g⟩ W (.string r) W := by
 show (do let r ← (do eqGuard .add i x y (kV E x) (kV E y); binOp .add i (kV E x) (kV E y)); pure (.value r) : Sem Next).run P W = _
 rw [j, k]
 simp only [xD] at h
 split at h
 ·cases h
 ·rename_i hle; cases h; simp [eqGuard, binOp, Op.stringOp]; simpa using hle
theorem uY {h m : TypeId} {x y : Operand} {a b : Array Value} {r : Bool} (k : kV E x = .agg a) (l : kV E y = .agg b) (i : ∀ W, (eqGuard .eql h x y (.agg a) (.agg b)).run P W = .ok () W) (j : ∀ W, (binOp .eql h (.agg a) (.agg b)).run P W = .ok (.bool r) W) : nc P E ⟨d, .binOp .eql h x y m, ty, pos, af, g⟩ W (.bool r) W := by
 show (do let r ← (do eqGuard .eql h x y (kV E x) (kV E y); binOp .eql h (kV E x) (kV E y)); pure (.value r) : Sem Next).run P W = _
 rw [k, l]; simp [i W, j W]
theorem Ed {h m : TypeId} {x y : Operand} {a b : Array Value} {r : Bool} (k : kV E x = .agg a) (l : kV E y = .agg b) (i : ∀ W, (eqGuard .neq h x y (.agg a) (.agg b)).run P W = .ok () W) (j : ∀ W, (binOp .neq h (.agg a) (.agg b)).run P W = .ok (.bool r) W) : nc P E ⟨d, .binOp .neq h x y m, ty, pos, af, g⟩ W (.bool r) W := by
 show (do let r ← (do eqGuard .neq h x y (kV E x) (kV E y); binOp .neq h (kV E x) (kV E y)); pure (.value r) : Sem Next).run P W = _
 rw [k, l]; simp [i W, j W]
theorem Cs {t e : TypeId} (dd : Nat) (b : P.underlying t = some (.pointer e)) (a : Option Addr) (W : World) : (Op.equalIn (dd + 1) t (.pointer a) (.pointer none)).run P W = .ok a.isNone W := by
 cases a <;> simp [Op.equalIn, aV b]
theorem yj {b l e : TypeId} {x y : Operand} {a : Option Addr} (i : P.underlying b = some (.pointer e)) (j : kV E x = .pointer a) (k : kV E y = .pointer none) :
  nc P E ⟨d, .binOp .eql b x y l, ty, pos, af, g⟩ W (.bool a.isNone) W := by
 show (do let r ← (do eqGuard .eql b x y (kV E x) (kV E y); binOp .eql b (kV E x) (kV E y)); pure (.value r) : Sem Next).run P W = _
 rw [j, k]
 have h := Cs 9999 i a W
 simp [eqGuard, binOp, Op.equal, show Op.maxDepth = 9999 + 1 from rfl, h]
theorem Ec {b l e : TypeId} {x y : Operand} {a : Option Addr} (i : P.underlying b = some (.pointer e)) (j : kV E x = .pointer a) (k : kV E y = .pointer none) :
  nc P E ⟨d, .binOp .neq b x y l, ty, pos, af, g⟩ W (.bool !a.isNone) W := by
 show (do let r ← (do eqGuard .neq b x y (kV E x) (kV E y); binOp .neq b (kV E x) (kV E y)); pure (.value r) : Sem Next).run P W = _
 rw [j, k]
 have h := Cs 9999 i a W
 simp [eqGuard, binOp, Op.equal, show Op.maxDepth = 9999 + 1 from rfl, h]
theorem pA {x : Operand} {t : TypeId} {s : ByteArray} (a : P.underlying t = some .string) (b : kV E x = .string s) : nc P E ⟨d, .call ⟨.builtin .len, #[x], #[t]⟩, ty, pos, af, g⟩ W (.int .i64 s.size) W := by
 show (do let d ← resolve (kV E) ⟨.builtin .len, #[x], #[t]⟩ ty; invoke d.target d.args : Sem Next).run P W = _
 simp [resolve, invoke, builtin, Builtin.len_, aV a, b, goInt]
theorem BK {x : Operand} {t e : TypeId} {A : Option Addr} {l c : Nat} (a : P.underlying t = some (.slice e)) (b : kV E x = .slice A l c) : nc P E ⟨d, .call ⟨.builtin .len, #[x], #[t]⟩, ty, pos, af, g⟩ W (.int .i64 l) W := by
 show (do let d ← resolve (kV E) ⟨.builtin .len, #[x], #[t]⟩ ty; invoke d.target d.args : Sem Next).run P W = _
 simp [resolve, invoke, builtin, Builtin.len_, aV a, b, goInt]
theorem ml {α : Type} {R : rA α} {k : Nat} {m : lQ} {x : Operand} {t e : TypeId} {v : Value} {l : List α} (b : P.underlying t = some (.slice e)) (h : kV E x = v) (a : Sl R k m v l) : nc P E ⟨d, .call ⟨.builtin .len, #[x], #[t]⟩, ty, pos, af, g⟩ W (.int .i64 l.length) W := by
 obtain ⟨A, c, rfl, _⟩ := a
 exact BK b h
theorem BC {t : TypeId} {x a : Operand} {m : IntKind} {s : ByteArray} {i : Int} {c : UInt8} (k : P.underlying t = some .string) (l : kV E x = .string s) (h : kV E a = .int m i) (b : 0 ≤ i) (j : s[i.toNat]? = some c) :
  nc P E ⟨d, .index t x a, ty, pos, af, g⟩ W (.int .u8 c.toNat) W := by
 show (do pure (.value (← Instr.index t (kV E x) (kV E a))) : Sem Next).run P W = _
 rw [l, h]
 simp [Instr.index, asIntOf, aV k, b, j]
def nl (P : Program) (t : TypeId) (f off : Nat) : Prop := ∀ b o w, (Instr.fieldAt t (.pointer (some ⟨b, o, none⟩)) f).run P w = .ok (.pointer (some ⟨b, o + off, none⟩)) w
theorem kP {t : TypeId} {x : Operand} {f off b o : Nat} (a : nl P t f off) (h : kV E x = .pointer (some ⟨b, o, none⟩)) : nc P E ⟨d, .fieldAddr t x f, ty, pos, af, g⟩ W (.pointer (some ⟨b, o + off, none⟩)) W := by
 show (do pure (.value (← Instr.fieldAt t (kV E x) f)) : Sem Next).run P W = _
 rw [h]; simp [a b o W]
theorem zt {t : TypeId} {x : Operand} {f off : Nat} {v : Value} {ys : List Value} (zs : List Value) (k : nl P t f off) (n : kV E x = v) (m : At μ v ys) (p : (ys.drop off).take zs.length = zs) :
  ∃ h, At μ h zs ∧ ∀ W, nc P E ⟨d, .fieldAddr t x f, ty, pos, af, g⟩ W h W := by
 obtain ⟨b, o, cs, T, fr, rfl, h1, i⟩ := m
 refine ⟨_, ⟨b, o + off, cs, T, fr, rfl, h1, fun j y a => ?_⟩, fun W => kP k n⟩
 have l : j < zs.length := (bM.1 a).1
 have := i (off + j) y (by
  rw [← p, eE l, dY] at a
  exact a)
 rw [fI]
 exact this
theorem nz {x : Operand} {a : Addr} (b : kV E x = .pointer (some a)) : nc P E ⟨d, .nilCheck x, ty, pos, af, g⟩ W (.pointer (some a)) W := by
 unfold nc execOp
 simp [b]
theorem L6 {α : Type} {R : rA α} {k : Nat} {t e : TypeId} {x h : Operand} {O : IntKind} {v : Value} {i : Int} {l : List α} {x0 : α} (J : P.underlying t = some (.slice e)) (he : ∀ w, (sizeOf e).run P w = .ok k w) (L : kV E x = v) (F : kV E h = .int O i) (I : Sl R k μ v l) (n : 0 ≤ i) (m : l[i.toNat]? = some x0) :
  ∃ p ys, ys.length = k ∧ R μ ys x0 ∧ At μ p ys ∧ ∀ W, nc P E ⟨d, .indexAddr t x h, ty, pos, af, g⟩ W p W := by
 obtain ⟨A, c, rfl, Q, U, q⟩ := I
 have G : i.toNat < l.length := (bM.1 m).1
 obtain ⟨b, off, cs, T, fr, rfl, r, s⟩ := q (by omega)
 obtain ⟨ys, u, z, a⟩ := s i.toNat x0 m
 refine ⟨.pointer (some ⟨b, off + i.toNat * k, none⟩), ys, u, z, ⟨b, off + i.toNat * k, cs, T, fr, rfl, r, fun j y M => a j y M⟩, fun W => ?_⟩
 show (do pure (.value (← Instr.indexAt t (kV E x) (kV E h))) : Sem Next).run P W = _
 rw [L, F]
 have D : 0 ≤ i ∧ i < (l.length : Int) := ⟨n, by omega⟩
 simp [Instr.indexAt, asIntOf, aV J, he W, D, dG]
theorem oH {α : Type} {enc : α → List Value} {k : Nat} {t e : TypeId} {x a : Operand} {y : IntKind} {v : Value} {i : Int} {l : List α} {x0 : α} (s : P.underlying t = some (.slice e)) (he : ∀ w, (sizeOf e).run P w = .ok k w) (u : kV E x = v) (n : kV E a = .int y i) (r : Sl (Pl enc) k μ v l) (b : 0 ≤ i) (q : l[i.toNat]? = some x0) :
  ∃ p, At μ p (enc x0) ∧ ∀ W, nc P E ⟨d, .indexAddr t x a, ty, pos, af, g⟩ W p W := by
 obtain ⟨p, ys, h1, h, j, m⟩ := L6 (d := d) (ty := ty) (pos := pos) (af := af) (g := g) s he u n r b q
 cases h
 exact ⟨p, j, m⟩
theorem Jc (P : Program) {W : World} {b off : Nat} {cs : Array Value} {T : TypeId} {fr : Nat × Nat} (a : W.heap[b]? = some (.cells cs T fr)) (ys : List Value) (g : ∀ j y, ys[j]? = some y → cs[off + j]? = some y) :
  (loadCells ⟨b, off, none⟩ ys.length).run P W = .ok ys.toArray W :=
 jL W ⟨b, off, none⟩ ys (fun j v d => by rw [dG, iE W b (off + j) cs T fr a]; exact g j v d)
theorem Dh {W : World} {t : TypeId} {b off : Nat} {cs : Array Value} {T : TypeId} {fr : Nat × Nat} (a : ∀ w, (isAgg t).run P w = .ok true w) (ys : List Value) (d : ∀ w, (sizeOf t).run P w = .ok ys.length w) (g : W.heap[b]? = some (.cells cs T fr)) (h : ∀ j y, ys[j]? = some y → cs[off + j]? = some y) : (Instr.loadAt t (.pointer (some ⟨b, off, none⟩))).run P W = .ok (.agg ys.toArray) W := by
 simp [Instr.loadAt, Instr.sureAddr, loadVar, a W, d W, Jc P g ys h]
theorem Da {W : World} {t : TypeId} {b off : Nat} {cs : Array Value} {T : TypeId} {fr : Nat × Nat} (a : ∀ w, (isAgg t).run P w = .ok false w) {y : Value} (d : W.heap[b]? = some (.cells cs T fr)) (h : cs[off]? = some y) : (Instr.loadAt t (.pointer (some ⟨b, off, none⟩))).run P W = .ok y W := by
 have g : W.cell? ⟨b, off, none⟩ = some y := by rw [iE W b off cs T fr d]; exact h
 simp [Instr.loadAt, Instr.sureAddr, loadVar, a W, load, Sem.run, g]
theorem kI {t : TypeId} {x : Operand} {a v : Value} (h : kV E x = a) (b : (Instr.loadAt t a).run P W = .ok v W) : nc P E ⟨d, .load t x, ty, pos, af, g⟩ W v W := by
 show (do pure (.value (← Instr.loadAt t (kV E x))) : Sem Next).run P W = _
 rw [h]; simp [b]
def oD (μ : lQ) (A : List (Nat × Obj)) (W : World) : Prop := (∀ b o, μ b = some o → W.heap[b]? = some o) ∧ ∀ b o, (b, o) ∈ A → W.heap[b]? = some o
theorem ST.has (h : ST dd F w W μ L) : oD μ L W := ⟨h.mem, fun b o a => (h.box b o a).1⟩
theorem oD.sub {μ' : lQ} {A A' : List (Nat × Obj)} (h : oD μ A W) (g : lu μ' μ) (d : ∀ p, p ∈ A' → p ∈ A) : oD μ' A' W := ⟨fun b o a => h.1 b o (g b o a), fun b o a => h.2 b o (d _ a)⟩
theorem lB {A : List (Nat × Obj)} (hH : oD μ A W) {t : TypeId} {p : Value} {ys : List Value} (hp : At μ p ys) (d : ∀ w, (isAgg t).run P w = .ok true w) (g : ∀ w, (sizeOf t).run P w = .ok ys.length w) :
  (Instr.loadAt t p).run P W = .ok (.agg ys.toArray) W := by
 obtain ⟨b, off, cs, T, fr, rfl, h1, a⟩ := hp
 exact Dh d ys g (hH.1 _ _ h1) a
theorem tX {A : List (Nat × Obj)} (hH : oD μ A W) {t : TypeId} {p y : Value} (hp : At μ p [y]) (d : ∀ w, (isAgg t).run P w = .ok false w) :
  (Instr.loadAt t p).run P W = .ok y W := by
 obtain ⟨b, off, cs, T, fr, rfl, h1, a⟩ := hp
 exact Da d (hH.1 _ _ h1) (a 0 y rfl)
theorem kO {A : List (Nat × Obj)} (hH : oD μ A W) {t : TypeId} {b off : Nat} {cs : Array Value} {T : TypeId} {fr : Nat × Nat} (h : (b, Obj.cells cs T fr) ∈ A) (ys : List Value) (k : (cs.toList.drop off).take ys.length = ys) (g : ∀ w, (isAgg t).run P w = .ok true w) (i : ∀ w, (sizeOf t).run P w = .ok ys.length w) : (Instr.loadAt t (.pointer (some ⟨b, off, none⟩))).run P W = .ok (.agg ys.toArray) W :=
 Dh g ys i (hH.2 _ _ h) (fun j y a => by
  have d : j < ys.length := (bM.1 a).1
  rw [← k, eE d, dY] at a
  simpa using a)
theorem lg {A : List (Nat × Obj)} (hH : oD μ A W) {t : TypeId} {b off : Nat} {cs : Array Value} {T : TypeId} {fr : Nat × Nat} (d : (b, Obj.cells cs T fr) ∈ A) {y : Value} (g : cs[off]? = some y) (a : ∀ w, (isAgg t).run P w = .ok false w) : (Instr.loadAt t (.pointer (some ⟨b, off, none⟩))).run P W = .ok y W :=
 Da a (hH.2 _ _ d) g
theorem mB {t : TypeId} {a : Array (Nat × Operand)} {b : Array (Nat × Value)} {v : Value} (h : a.map (fun (i, x) => (i, kV E x)) = b) (j : ∀ W, (Instr.build t b).run P W = .ok v W) : nc P E ⟨d, .build t a, ty, pos, af, g⟩ W v W := by
 show (do pure (.value (← Instr.build t (a.map fun (i, x) => (i, kV E x)))) : Sem Next).run P W = _
 rw [h]; simp [j W]
theorem mn {t : TypeId} {z cs : Array Value} {fs : Array Field} {a : Array (Nat × Value)} {pl : Array (Nat × Nat)} (g : ∀ w, (zeroValue t).run P w = .ok (.agg z) w) (d : P.underlying t = some (.struct fs)) (hp : ∀ w, (fs.mapM fun f => do pure (f.offset, ← sizeOf f.type) : Sem (Array (Nat × Nat))).run P w = .ok pl w) (b : Instr.fill (pl[·]?) z a.toList = some cs) (W : World) : (Instr.build t a).run P W = .ok (.agg cs) W := by
 simp only [Instr.build, cK, g W, bQ, aV d, Value.cells]
 rw [hp W]
 simp only [bQ, b, dH]
end
theorem Fj {α : Type} : ∀ (a : Ask α) (w : World), w.drawn ≤ (w.ask a).2.drawn
 | .done a, w => by simp [World.ask]
 | .ask b range k, w => by
  unfold World.ask
  dsimp only
  split
  ·exact Fj (k 0) w
  ·refine dF (jQ w.drawn) ?_
   exact Fj _ { w with drawn := w.drawn + 1 }
theorem N2 (w : World) (c : Sys) : w.drawn ≤ (w.sys c).2.drawn := by
 have h := Fj (Kernel.perform c w.os) w
 unfold World.sys
 generalize w.ask (Kernel.perform c w.os) = r at *
 obtain ⟨⟨a, b⟩, d⟩ := r
 cases a <;> simp at h ⊢ <;> exact h
theorem Hi {p : Program} {w d : World} {a : Addr} {u : TypeId} {k : Addr} {v : Value} {b : Bool} {l : List Addr} (h : w.viewStore p a u k v b = .ok (d, l)) : d.drawn = w.drawn := by
 unfold World.viewStore at h
 simp only [bind, Except.bind, pure, Except.pure] at h
 split at h
 ·cases h
 ·split at h
  ·cases h
  ·split at h
   ·split at h
    ·cases h
    ·split at h
     ·cases h
     ·cases h; rfl
   ·cases h
theorem Ix {p : Program} {w d : World} {a : Addr} {v : Value} {b : Bool} {l : List Addr} (h : w.farStore p a v b = .ok (d, l)) : d.drawn = w.drawn := by
 unfold World.farStore at h
 split at h
 ·split at h
  ·rename_i h1; cases h; exact Hi h1
  ·cases h
 ·cases h
theorem pO {α : Type} {p : Program} : ∀ (s : Sem α) (w d : World) (a : α), s.run p w = .ok a d → w.drawn ≤ d.drawn
 | .pure a, w, d, b, h => by simp only [Sem.run] at h; cases h; exact aZ _
 | .load m a k, w, d, b, h => by
  simp only [Sem.run] at h
  split at h
  ·exact pO _ _ _ _ h
  ·split at h
   ·exact pO _ _ _ _ h
   ·cases h
 | .store m a v k, w, d, b, h => by
  have key : ∀ (r : Result α) i, r = .ok b d → (r = (match w.cell? a with
    | some _ => if w.frozen? a then .halt i w else k.run p (w.setCell a v)
    | none => match w.farStore p a v (m == .atomic) with
     | .ok (w, _) => k.run p w
     | .error h => .halt h w)) → w.drawn ≤ d.drawn := by
   intro r i j h
   rw [j] at h
   split at h
   ·split at h
    ·cases h
    ·have := pO k _ _ _ h.symm
     simpa [World.setCell] using this
   ·split at h
    ·rename_i h1
     have g := pO k _ _ _ h.symm
     rw [Ix h1] at g
     exact g
    ·cases h
  cases v with
  | agg cs => simp only [Sem.run] at h; cases h
  | tuple cs => simp only [Sem.run] at h; cases h
  | _ => exact key _ _ h (by simp only [Sem.run]; rfl)
 | .new o k, w, d, b, h => by simp only [Sem.run] at h; have := pO (k _) _ _ _ h; exact this
 | .shape r k, w, d, b, h => by simp only [Sem.run] at h; exact pO _ _ _ _ h
 | .freeze a n k, w, d, b, h => by
  simp only [Sem.run] at h
  have := pO k _ _ _ h
  unfold World.freeze at this
  split at this <;> exact this
 | .frozen a k, w, d, b, h => by simp only [Sem.run] at h; exact pO _ _ _ _ h
 | .getObj r k, w, d, b, h => by
  simp only [Sem.run] at h
  split at h <;> try (cases h; done)
  exact pO _ _ _ _ h
 | .setObj r o k, w, d, b, h => by
  simp only [Sem.run] at h
  split at h <;> try (cases h; done)
  have := pO k _ _ _ h
  exact this
 | .choose q k, w, d, b, h => by
  simp only [Sem.run] at h
  split at h
  ·exact pO _ _ _ _ h
  ·exact dF (jQ _) (pO _ _ _ _ h)
 | .sys c k, w, d, b, h => by
  simp only [Sem.run] at h
  exact dF (N2 w c) (pO _ _ _ _ h)
 | .program k, w, d, b, h => by simp only [Sem.run] at h; exact pO _ _ _ _ h
 | .mark m k, w, d, b, h => by simp only [Sem.run] at h; exact pO k _ _ _ h
 | .halt x, w, d, b, h => by simp only [Sem.run] at h; cases h
end Go.Proofs.YtklbhegeiijbjaaGreat
namespace Go.Proofs.YtklbhegeiijbjaaGreat
open Go.RowKit
variable {dd : Bool}
section
variable {P : Program} {n : Nat} {Q : qK} {E : Nat → Value} {W : World} {ops : Array Oper} {rest : List Oper}
 {d : Option Nat} {ty : TypeId} {pos : String} {af : Array Edge} {g : Option (Nat × Bool)}
 {F : Nat → Prop} {w : World} {μ : lQ} {L : List (Nat × Obj)}
def ov (P : Program) (E : Nat → Value) (o : Oper) (W : World) (K : Value → World → Prop) : Prop :=
 (∃ v W', (execOp (kV E) o).run P W = .ok (.value v) W' ∧ K v W') ∨ (∃ W', (execOp (kV E) o).run P W = .ok .skip W' ∧ K undef W') ∨
 (∃ f args, (execOp (kV E) o).run P W = .ok (.enter f args) W ∧ Calls P f args W fun e a => ∃ v, e = .returned v ∧ K v a)
theorem ov.mono {o : Oper} {K K' : Value → World → Prop} (h : ov P E o W K) (hk : ∀ v W', K v W' → K' v W') : ov P E o W K' := by
 rcases h with ⟨v, W', h1, a⟩ | ⟨W', h1, a⟩ | ⟨f, args, h1, a⟩
 ·exact .inl ⟨v, W', h1, hk _ _ a⟩
 ·exact .inr (.inl ⟨W', h1, hk _ _ a⟩)
 ·exact .inr (.inr ⟨f, args, h1, dZ a (fun _ _ ⟨v, b, d⟩ => ⟨v, b, hk _ _ d⟩)⟩)
theorem RN {o : Oper} {dd : Nat} (hw : ul n ops E o) (d : o.dst = some dd) (g : dd < n) (h : ov P E o W fun v W' => LW P n ops Q rest (oI E dd v) W') : LW P n ops Q (o :: rest) E W := by
 rcases h with ⟨v, W', h1, b⟩ | ⟨W', h1, b⟩ | ⟨f, args, h1, b⟩
 ·exact Oc hw d g h1 b
 ·intro a ha
  unfold wpList
  rw [aX (hw.of ha)]
  refine .inl ?_
  unfold Oper.wp
  rw [ha.eval, h1, je, d]
  exact b _ (ha.put g _)
 ·exact Pv hw d g h1 b
theorem Tj {o : Oper} (hw : ul n ops E o) (d : o.dst = none) (h : ov P E o W fun _ W' => LW P n ops Q rest E W') : LW P n ops Q (o :: rest) E W := by
 rcases h with ⟨v, W', h1, b⟩ | ⟨W', h1, b⟩ | ⟨f, args, h1, b⟩
 ·intro a ha
  unfold wpList
  rw [aX (hw.of ha)]
  refine .inl ?_
  unfold Oper.wp
  rw [ha.eval, h1, iT, d]
  exact b _ (ha.Aq _)
 ·exact O7 hw d h1 b
 ·intro a ha
  unfold wpList
  rw [aX (hw.of ha)]
  refine .inl ?_
  unfold Oper.wp
  rw [ha.eval, h1, iU]
  refine dZ b ?_
  rintro e i ⟨v, rfl, g⟩
  simp only [d]
  exact g _ (ha.Aq _)
theorem lI {K : Value → World → Prop} {t : TypeId} {x : Operand} {v : Value} (a : ST dd F w W μ L) (i : kV E x = v) (h : ∀ W' b, ST dd F w W' μ ((b, .cells v.cells t (0, 0)) :: L) → K (.pointer (some ⟨b, 0, none⟩)) W') : ov P E ⟨d, .box t x, ty, pos, af, g⟩ W K :=
 .inl ⟨.pointer (some ⟨W.heap.size, 0, none⟩), W.alloc (.cells v.cells t (0, 0)), by
   show (do pure (.value (← Instr.box t (kV E x))) : Sem Next).run P W = _
   rw [i]
   simp [Instr.box, newVar, newRow, newObj, Sem.run], h _ _ (a.alloc _)⟩
theorem lG {K : Value → World → Prop} {t : TypeId} {z : Value} (a : ST dd F w W μ L) (i : ∀ w, (zeroValue t).run P w = .ok z w) (h : ∀ W' b, ST dd F w W' μ ((b, .cells z.cells t (0, 0)) :: L) → K (.pointer (some ⟨b, 0, none⟩)) W') : ov P E ⟨d, .alloc t, ty, pos, af, g⟩ W K :=
 .inl ⟨.pointer (some ⟨W.heap.size, 0, none⟩), W.alloc (.cells z.cells t (0, 0)), by
   show (do pure (.value (← Instr.alloc t true (.tuple #[]))) : Sem Next).run P W = _
   simp [Instr.alloc, i W, newVar, newRow, newObj, Sem.run], h _ _ (a.alloc _)⟩
theorem HZ {t e : TypeId} {m k : Nat} {z : Value} {d : Array (Nat × Value)} {cs : Array Value} (h : P.underlying t = some (.slice e)) (g : ∀ w, (sizeOf e).run P w = .ok k w) (j : ∀ w, (zeroValue e).run P w = .ok z w) (hm : m * k ≤ 16777216) (a : Instr.fill (fun i => some (i * k, k)) ((Array.range (m * k)).map (fun i => (if m * k = 0 then (#[] : Array Value) else z.cells)[i % (if m * k = 0 then (#[] : Array Value) else z.cells).size]!)) d.toList = some cs) (W : World) :
  (Instr.buildSlice t m d).run P W = .ok (.slice (some ⟨W.heap.size, 0, none⟩) m m) (W.alloc (.cells cs e (0, 0))) := by
 simp only [Instr.buildSlice, cK, aV h, bQ, g W]
 rw [bB (by omega)]
 by_cases b : m * k = 0
 ·simp only [b, aN] at a ⊢
  simp only [cK, dH, bQ, a]
  simp [newRow, newObj, Sem.run]
 ·simp only [b, aG] at a ⊢
  simp only [cK, j W, dH, bQ, a]
  simp [newRow, newObj, Sem.run]
theorem lD {K : Value → World → Prop} {t e : TypeId} {m : Nat} {j : Array (Nat × Operand)} {k : Array (Nat × Value)} {cs : Array Value} (a : ST dd F w W μ L) (l : j.map (fun (i, x) => (i, kV E x)) = k) (n : ∀ W, (Instr.buildSlice t m k).run P W = .ok (.slice (some ⟨W.heap.size, 0, none⟩) m m) (W.alloc (.cells cs e (0, 0)))) (h : ∀ W' b, ST dd F w W' μ ((b, .cells cs e (0, 0)) :: L) → K (.slice (some ⟨b, 0, none⟩) m m) W') : ov P E ⟨d, .buildSlice t m j, ty, pos, af, g⟩ W K :=
 .inl ⟨.slice (some ⟨W.heap.size, 0, none⟩) m m, W.alloc (.cells cs e (0, 0)), by
   show (do pure (.value (← Instr.buildSlice t m (j.map fun (i, x) => (i, kV E x)))) : Sem Next).run P W = _
   rw [l]
   simp [n W], h _ _ (a.alloc _)⟩
theorem ST.store {A B : List (Nat × Obj)} {b : Nat} {cs : Array Value} {t : TypeId} (d : ST dd F w W μ (A ++ (b, .cells cs t (0, 0)) :: B)) (a : Array Value) :
  ST dd F w (W.setRow b a) μ (A ++ (b, .cells a t (0, 0)) :: B) := by
 have g := (d.box b _ (by simp : (b, Obj.cells cs t (0, 0)) ∈ A ++ (b, .cells cs t (0, 0)) :: B)).1
 refine d.put ⟨rfl, rfl, rfl, aZ _, by simp [World.setRow]⟩ (fun k hk => ?_) (setRow_heap W b cs a t (0, 0) g)
 simp only [World.setRow, eU]
 rw [bB (fun e => hk e.symm)]
theorem Dj (P : Program) {W : World} {t : TypeId} {b off : Nat} {cs : Array Value} {T : TypeId} (v : Value) (a : ∀ w, (sizeOf t).run P w = .ok v.cells.size w) (h1 : ∀ u ∈ v.cells.toList, u.oneCell' = true) (d : W.heap[b]? = some (.cells cs T (0, 0))) (g : off + v.cells.size ≤ cs.size) : (Instr.storeAt t (.pointer (some ⟨b, off, none⟩)) v).run P W = .ok () (W.setRow b (cs.toList.take off ++ v.cells.toList ++ cs.toList.drop (off + v.cells.size)).toArray) := by
 have := jR (P := P) b off T v.cells.toList 0 cs W d (by simpa using g) h1
 simp [Instr.storeAt, Instr.sureAddr, storeVar, a W]
 simpa using this
theorem QM {K : Value → World → Prop} (A : List (Nat × Obj)) {B : List (Nat × Obj)} {t : TypeId} {x y : Operand} (v : Value) {b off : Nat} {cs : Array Value} {T : TypeId} (a : Array Value) (i : ST dd F w W μ (A ++ (b, .cells cs T (0, 0)) :: B)) (n : kV E x = .pointer (some ⟨b, off, none⟩)) (p : kV E y = v) (j : ∀ w, (sizeOf t).run P w = .ok v.cells.size w) (h1 : ∀ u ∈ v.cells.toList, u.oneCell' = true) (m : off + v.cells.size ≤ cs.size) (l : (cs.toList.take off ++ v.cells.toList ++ cs.toList.drop (off + v.cells.size)).toArray = a) (h : ∀ W', ST dd F w W' μ (A ++ (b, .cells a T (0, 0)) :: B) → K undef W') : ov P E ⟨d, .store t x y, ty, pos, af, g⟩ W K :=
 .inr (.inl ⟨W.setRow b a, by
   show (do Instr.storeAt t (kV E x) (kV E y); pure .skip : Sem Next).run P W = _
   have k := (i.box b _ (by simp : (b, Obj.cells cs T (0, 0)) ∈ A ++ (b, .cells cs T (0, 0)) :: B)).1
   rw [n, p]
   simp only [cK, Dj P v j h1 k m, l, bQ, dH], h _ (i.store a)⟩)
def lE (dd : Bool) (P : Program) (f : FuncId) (args : List Value) (w : World) (v : Value) : Prop := Calls P f args.toArray w fun e a => e = .returned v ∧ Ex dd w a
theorem N5 {f : FuncId} {fv : Operand} {ax : Array Operand} {ats : Array TypeId} {caps args : Array Value} (a : kV E fv = .func (.func f) #[] caps) (he : ∀ args w, (callFunc f args).run P w = .ok (.enter f args) w) (ha : ax.map (kV E) ++ caps = args) :
  (execOp (kV E) ⟨d, .call ⟨.value fv, ax, ats⟩, ty, pos, af, g⟩).run P W = .ok (.enter f args) W := by
 show (do let d ← resolve (kV E) ⟨.value fv, ax, ats⟩ ty; invoke d.target d.args : Sem Next).run P W = _
 rw [← ha]
 simp only [resolve, a, Deferred.ofValue, cK, dH, bQ, invoke]
 simp [he]
theorem FE {K : Value → World → Prop} {f : FuncId} {fv : Operand} {ax : Array Operand} {ats : Array TypeId} {caps args : Array Value} (a : kV E fv = .func (.func f) #[] caps) (he : ∀ args w, (callFunc f args).run P w = .ok (.enter f args) w) (ha : ax.map (kV E) ++ caps = args) (h : Calls P f args W fun e b => ∃ v, e = .returned v ∧ K v b) : ov P E ⟨d, .call ⟨.value fv, ax, ats⟩, ty, pos, af, g⟩ W K :=
 .inr (.inr ⟨f, args, N5 a he ha, h⟩)
theorem FH {K : Value → World → Prop} {f : FuncId} {fv : Operand} {ax : Array Operand} {ats : Array TypeId} {args : List Value} {v : Value} (a : ST dd F w W μ L) (j : kV E fv = .func (.func f) #[] #[]) (he : ∀ args w, (callFunc f args).run P w = .ok (.enter f args) w) (ha : (ax.map (kV E) ++ (#[] : Array Value)) = args.toArray) (i : lE dd P f args W v) (h : ∀ W', ST dd F w W' μ L → K v W') : ov P E ⟨d, .call ⟨.value fv, ax, ats⟩, ty, pos, af, g⟩ W K :=
 FE j he ha (dZ i (fun _ _ ⟨h1, b⟩ => ⟨v, h1, h _ (a.Jy b)⟩))
def lA {α : Type} (e : TypeId) (enc : α → List Value) (k : Nat) (v : Value) (l : List α) (R : List (Nat × Obj)) : Prop :=
 (v = .slice none 0 0 ∧ l = [] ∧ R = []) ∨
 ∃ g cap a, v = .slice (some ⟨g, 0, none⟩) l.length cap ∧ R = [(g, .cells a e (0, 0))] ∧ l.length ≤ cap ∧ cap ≤ maxLen ∧ a.size = cap * k ∧ a.toList.take (l.length * k) = (l.map enc).flatten
theorem pL {α : Type} {enc : α → List Value} {k : Nat} (hk : ∀ x, (enc x).length = k) : ∀ l : List α, (l.map enc).flatten.length = l.length * k
 | [] => by simp
 | x :: l => by simp [pL hk l, hk x, cP, Nat.add_comm]
theorem xN {α : Type} {enc : α → List Value} {k : Nat} (hk : ∀ x, (enc x).length = k) : ∀ (l : List α) (i : Nat) (x : α), l[i]? = some x → ∀ j y, (enc x)[j]? = some y → (l.map enc).flatten[i * k + j]? = some y
 | [], i, x, h => by cases h
 | z :: l, 0, x, h => by
  simp at h; subst h
  intro j y a
  have b : j < (enc z).length := (bM.1 a).1
  simp [iF, b]
  rw [dB b] at a
  simpa using a
 | z :: l, i + 1, x, h => by
  intro j y a
  have := xN hk l i x (by simpa using h) j y a
  simp only [bP, bR]
  rw [fX (by rw [hk z]; have := Nat.le_mul_of_pos_left k (Nat.succ_pos i); simp [cP] at *; omega), hk z]
  rw [show (i + 1) * k + j - k = i * k + j by rw [cP]; omega]
  exact this
theorem GK {α : Type} {enc : α → List Value} {k : Nat} (hk : ∀ x, (enc x).length = k) : ∀ (l : List α) (q : Nat) (y : Value), (l.map enc).flatten[q]? = some y → ∃ i x j, l[i]? = some x ∧ (enc x)[j]? = some y ∧ q = i * k + j
 | [], q, y, h => by simp at h
 | z :: l, q, y, h => by
  simp only [bP, bR] at h
  by_cases b : q < k
  ·rw [iN (by rw [hk]; exact b)] at h
   exact ⟨0, z, q, rfl, h, by simp⟩
  ·rw [fX (by rw [hk]; omega), hk] at h
   obtain ⟨i, x, j, h1, a, d⟩ := GK hk l (q - k) y h
   exact ⟨i + 1, x, j, by simpa using h1, a, by rw [cP]; omega⟩
theorem lA.nil {α : Type} (e : TypeId) (enc : α → List Value) (k : Nat) : lA e enc k (.slice none 0 0) [] [] := .inl ⟨rfl, rfl, rfl⟩
theorem lA.sl {α : Type} {e : TypeId} {enc : α → List Value} {k : Nat} {v : Value} {l : List α} {R : List (Nat × Obj)} {m : lQ} (h : lA e enc k v l R) (hk : ∀ x, (enc x).length = k) (hm : ∀ b o, (b, o) ∈ R → m b = some o) : Sl (Pl enc) k m v l := by
 rcases h with ⟨rfl, rfl, rfl⟩ | ⟨g, cap, a, rfl, rfl, h1, n, s, p⟩
 ·exact Sl.nil _ _ _
 ·refine ⟨_, cap, rfl, h1, n, fun _ => ⟨g, 0, a, e, (0, 0), rfl, hm _ _ (by simp), fun i x q => ⟨enc x, hk x, rfl, fun j y r => ?_⟩⟩⟩
  have := xN hk l i x q j y r
  rw [← p] at this
  have d : i * k + j < l.length * k := by
   have := (bM.1 this).1
   simp at this; omega
  rw [eE d] at this
  simpa using this
theorem lA.len {α : Type} {e : TypeId} {enc : α → List Value} {k : Nat} {v : Value} {l : List α} {R : List (Nat × Obj)} (h : lA e enc k v l R) : l.length ≤ 9223372036854775807 := by
 rcases h with ⟨rfl, rfl, rfl⟩ | ⟨g, cap, a, rfl, rfl, h1, b, d, i⟩
 ·simp
 ·unfold maxLen at b; omega
theorem lA.fr {α : Type} {e : TypeId} {enc : α → List Value} {k : Nat} {v : Value} {l : List α} {R X Y : List (Nat × Obj)} (h : lA e enc k v l R) (a : ST dd lU w W μ (X ++ (R ++ Y))) : Fr w.heap.size v := by
 rcases h with ⟨rfl, rfl, rfl⟩ | ⟨g, cap, i, rfl, rfl, h1, j, m, n⟩
 ·exact Fr.nil _
 ·intro b d
  simp [Value.ownBlock] at d
  subst d
  rcases (a.box g _ (by simp; exact .inr (.inl rfl))).2.2 with h | h
  ·exact h
  ·exact h.elim
theorem lA.lit {α : Type} {e : TypeId} {enc : α → List Value} {k b m : Nat} {l : List α} {cs : Array Value} (hm : l.length = m) (d : m ≤ maxLen) (g : cs.toList = (l.map enc).flatten) (a : cs.size = m * k) : lA e enc k (.slice (some ⟨b, 0, none⟩) m m) l [(b, .cells cs e (0, 0))] := by
 subst hm
 refine .inr ⟨b, _, cs, rfl, rfl, aZ _, d, a, ?_⟩
 rw [← g, ← a]
 exact dN (by rw [dJ]; exact aZ _)
def nG {α : Type} (a : Nat) (l m : List α) : Option (List α) := if (l.length + m.length) * a ≤ 140737488355328 ∧ l.length + m.length ≤ maxLen then some (l ++ m) else none
theorem J0 {K : Value → World → Prop} {α : Type} {e t : TypeId} {enc : α → List Value} {k ab : Nat} {z v vs : Value} {l m r : List α} {R : List (Nat × Obj)} (X : List (Nat × Obj)) {Y : List (Nat × Obj)} {x y : Operand} {i : TypeInfo} (p : ST dd F w W μ (X ++ (R ++ Y))) (hk : ∀ x, (enc x).length = k) (b2 : 0 < k) (h1 : ∀ x, ∀ u ∈ enc x, u.oneCell' = true) (ht : P.underlying t = some (.slice e)) (hi : P.info? e = some i) (hz : i.zero = some z) (b6 : z.cells.size = k) (b3 : i.size = k) (b0 : i.bytes = ab) (hx : kV E x = v) (hy : kV E y = vs) (hR : lA e enc k v l R) (hs : Sl (Pl enc) k (hp W) vs m) (n : nG ab l m = some r) (h : ∀ W' v' R', ST dd F w W' μ (X ++ (R' ++ Y)) → lA e enc k v' r R' → K v' W') : ov P E ⟨d, .call ⟨.builtin .append, #[x, y], #[t, t]⟩, ty, pos, af, g⟩ W K := by
 unfold nG at n
 split at n
 case isFalse => cases n
 rename_i aj
 cases n
 have aa : ∀ (V : Value) (W' : World), (Builtin.append_ #[t, t] ty #[v, vs]).run P W = .ok V W' → (execOp (kV E) ⟨d, .call ⟨.builtin .append, #[x, y], #[t, t]⟩, ty, pos, af, g⟩).run P W = .ok (.value V) W' := by
  intro V W' hV
  show (do let d ← resolve (kV E) ⟨.builtin .append, #[x, y], #[t, t]⟩ ty; invoke d.target d.args : Sem Next).run P W = _
  simp [resolve, invoke, builtin, hx, hy, hV]
 obtain ⟨A, c, rfl, ba, bc, b1⟩ := hs
 have a8 : W.ownsRow 0 e k v l.length (l.map enc).flatten := by
  refine ⟨pL hk l, ?_⟩
  rcases hR with ⟨rfl, rfl, rfl⟩ | ⟨g, cap, I, rfl, rfl, h1, h2, h3, h4⟩
  ·exact .inl ⟨rfl, rfl⟩
  ·exact .inr ⟨g, cap, I, rfl, fL _, (p.box g _ (by simp)).1, h1, h2, h3, h4⟩
 have au : m.length = 0 ∨ ∃ ad, A = some ad ∧ ∀ j u, (m.map enc).flatten[j]? = some u → W.cell? (ad.add j) = some u := by
  rcases fG m.length with M | M
  ·exact .inl M
  ·obtain ⟨b, off, cs, T, fr, rfl, h6, h7⟩ := b1 M
   refine .inr ⟨⟨b, off, none⟩, rfl, fun j u hu => ?_⟩
   obtain ⟨i, x, q, h8, h9, rfl⟩ := GK hk m j u hu
   obtain ⟨ys, _, aw, ay⟩ := h7 i x h8
   cases aw
   rw [dG, iE W b (off + (i * k + q)) cs T fr h6, ← fI]
   exact ay q u h9
 have ar : ∀ u ∈ (m.map enc).flatten, u.oneCell' = true := by
  intro u hu
  obtain ⟨ys, b5, b4⟩ := jt.1 hu
  obtain ⟨x, _, rfl⟩ := bN.1 b5
  exact h1 x u b4
 by_cases ao : m.length = 0
 ·have hm : m = [] := aU ao
  subst hm
  have hr : (Builtin.append_ #[t, t] ty #[v, .slice A 0 c]).run P W = .ok v W := by
   rcases a8.2 with ⟨rfl, M⟩ | ⟨g, cap, I, rfl, _, hg, ap, _, bd, _⟩
   ·cases A with
    | none => simp [Builtin.append_, aV ht, sizeOf, typeInfo, hi, Builtin.lenOf, Builtin.firstCells]
    | some ad => simp [Builtin.append_, aV ht, sizeOf, typeInfo, hi, Builtin.lenOf, Builtin.firstCells, loadCells, loadCellsFrom]
   ·cases A with
    | none => simp [Builtin.append_, aV ht, sizeOf, typeInfo, hi, Builtin.lenOf, Builtin.firstCells, ap, storeCells]
    | some ad => simp [Builtin.append_, aV ht, sizeOf, typeInfo, hi, Builtin.lenOf, Builtin.firstCells, loadCells, loadCellsFrom, ap, storeCells]
  exact .inl ⟨v, W, aa _ _ (by simpa using hr), by simpa using h W v R p (by simpa using hR)⟩
 rcases au with M | ⟨ad, rfl, a1⟩
 ·exact absurd M ao
 obtain ⟨v', W', hr, ah, s, b9, L⟩ := run_append_own_at (P := P) W 0 t ty e i z k ab ht hi hz b3 b0 b6 b2 v l.length (l.map enc).flatten a8 ad m.length c (m.map enc).flatten (pL hk m) a1 ar aj.2 aj.1 (fL _)
 have ae := pO _ _ _ _ hr
 refine .inl ⟨v', W', aa _ _ hr, ?_⟩
 have hlen : (l ++ m).length = l.length + m.length := by simp
 rcases ah.2 with ⟨_, M⟩ | ⟨Q, a6, a7, rfl, _, ag, b7, ak, al, av⟩
 ·omega
 have ai : lA e enc k (.slice (some ⟨Q, 0, none⟩) (l.length + m.length) a6) (l ++ m) [(Q, .cells a7 e (0, 0))] :=
  .inr ⟨Q, a6, a7, by rw [hlen], rfl, by omega, ak, al, by rw [hlen, av]; simp⟩
 refine h W' _ _ ?_ ai
 have aq := p.nd
 rcases hR with ⟨rfl, rfl, rfl⟩ | ⟨g, cap, I, rfl, rfl, q1, q2, q3, q4⟩
 ·-- nil: a new block
  have U : W.heap.size ≤ Q := by
   rcases L with h | h <;> simp [Value.ownBlock] at h
   omega
  have hex : Ex dd W W' := ⟨s.os, s.tape, s.output, ve.of ae, s.size, fun b n => s.block b n (by simp [Value.ownBlock])⟩
  have h1 := p.Jy hex
  refine ⟨h1.os, h1.tape, h1.output, h1.drawn, h1.size, h1.nI, h1.mem, fun b o n => ?_, ?_⟩
  ·simp only [aW, cM] at n
   rcases n with n | n | n
   ·exact h1.box b o (by simp [n])
   ·cases n
    refine ⟨ag, ?_, .inl (dF p.size U)⟩
    cases hm : μ Q with
    | none => rfl
    | some x => have := p.FC hm; omega
   ·exact h1.box b o (by simp [n])
  ·simp only [bD, cL, bP, jr] at aq ⊢
   refine (jE gO).2 (eB.2 ⟨fun hm => ?_, aq⟩)
   rw [← cL] at hm
   obtain ⟨⟨b, o⟩, n, J⟩ := bN.1 hm
   have aE : (b, o) ∈ X ++ ([] ++ Y) := by simpa using n
   have := p.G0 aE
   simp at J
   omega
 ·by_cases an : Q = g
  ·subst an
   have M : ST dd F w W μ (X ++ (Q, Obj.cells I e (0, 0)) :: Y) := by simpa using p
   have hold : ∀ b, b < W.heap.size → b ≠ Q → W'.heap[b]? = W.heap[b]? := fun b n G => s.block b n (by simp [Value.ownBlock]; exact G)
   have D := M.nd
   simp only [cL, bP] at D
   have G : ∀ b o, (b, o) ∈ X ++ Y → b ≠ Q := fun b o n J => by
    subst J
    rcases aW.1 n with n | n
    ·exact (cE.1 D).2.2 b (bN.2 ⟨_, n, rfl⟩) b (by simp) rfl
    ·exact (eB.1 (cE.1 D).2.1).1 (bN.2 ⟨_, n, rfl⟩)
   have O := M.box Q (Obj.cells I e (0, 0)) (by simp)
   refine ⟨s.os.trans p.os, s.tape.trans p.tape, s.output.trans p.output, ve.trans p.drawn (ve.of ae), dF p.size s.size, fun b n hF => ?_, fun b o n => ?_, fun b o n => ?_, by simpa using D⟩
   ·rw [hold b (eY n p.size) (fun J => by subst J; rcases O.2.2 with h | h; omega; exact hF h)]
    exact p.nI b n hF
   ·rw [hold b (p.FC n) (fun J => by subst J; rw [O.2.1] at n; cases n)]
    exact p.mem b o n
   ·simp only [aW, cM] at n
    rcases n with n | n | n
    ·obtain ⟨Z, r2⟩ := p.box b o (by simp [n])
     exact ⟨by rw [hold b (ph Z) (G b o (by simp [n]))]; exact Z, r2⟩
    ·cases n; exact ⟨ag, O.2⟩
    ·obtain ⟨Z, r2⟩ := p.box b o (by simp [n])
     exact ⟨by rw [hold b (ph Z) (G b o (by simp [n]))]; exact Z, r2⟩
  ·have U : W.heap.size ≤ Q := by
    rcases L with h | h <;> simp [Value.ownBlock] at h
    ·exact absurd h an
    ·omega
   have M : ST dd F w W μ (X ++ (g, Obj.cells I e (0, 0)) :: Y) := by simpa using p
   have O := M.box g (Obj.cells I e (0, 0)) (by simp)
   have D := M.nd
   simp only [cL, bP] at D
   have G : ∀ b o, (b, o) ∈ X ++ Y → b ≠ g := fun b o n J => by
    subst J
    rcases aW.1 n with n | n
    ·exact (cE.1 D).2.2 b (bN.2 ⟨_, n, rfl⟩) b (by simp) rfl
    ·exact (eB.1 (cE.1 D).2.1).1 (bN.2 ⟨_, n, rfl⟩)
   have hold : ∀ b, b < W.heap.size → b ≠ g → W'.heap[b]? = W.heap[b]? := fun b n G => s.block b n (by simp [Value.ownBlock]; exact G)
   refine ⟨s.os.trans p.os, s.tape.trans p.tape, s.output.trans p.output, ve.trans p.drawn (ve.of ae), dF p.size s.size, fun b n hF => ?_, fun b o n => ?_, fun b o n => ?_, ?_⟩
   ·rw [hold b (eY n p.size) (fun J => by subst J; rcases O.2.2 with h | h; omega; exact hF h)]
    exact p.nI b n hF
   ·rw [hold b (p.FC n) (fun J => by subst J; rw [O.2.1] at n; cases n)]
    exact p.mem b o n
   ·simp only [aW, cM] at n
    rcases n with n | n | n
    ·obtain ⟨Z, r2⟩ := p.box b o (by simp [n])
     exact ⟨by rw [hold b (ph Z) (G b o (by simp [n]))]; exact Z, r2⟩
    ·cases n
     refine ⟨ag, ?_, .inl (dF p.size U)⟩
     cases hm : μ Q with
     | none => rfl
     | some x => have := p.FC hm; omega
    ·obtain ⟨Z, r2⟩ := p.box b o (by simp [n])
     exact ⟨by rw [hold b (ph Z) (G b o (by simp [n]))]; exact Z, r2⟩
   ·have az : (X.map (·.1) ++ Y.map (·.1)).Nodup := (eB.1 ((jE gO).1 D)).2
    simp only [cL, bP, jr]
    refine (jE gO).2 (eB.2 ⟨fun hm => ?_, az⟩)
    rw [← cL] at hm
    obtain ⟨⟨b, o⟩, n, J⟩ := bN.1 hm
    have := p.G0 (b := b) (o := o) (by rcases aW.1 n with h | h <;> simp [h])
    simp at J
    omega
end
end Go.Proofs.YtklbhegeiijbjaaGreat
namespace Go.Proofs.YtklbhegeiijbjaaGreat
open Go.RowKit
def DL (l : List Value) : Nat → Value := fun t => l.getD t undef
def ze (P : Program) (fn : Func) (R : Ending → World → Prop) : qK
 | .normal, E, W | .ret, E, W => ∃ v, (∀ tmps : Array Value, (∀ t, tmps.getD t undef = E t) → (results fn tmps).run P W = .ok v W) ∧ R (.returned v) W
 | _, _, _ => False
theorem AI {P : Program} {f : FuncId} {fn : Func} {c : Code} {args : List Value} {w : World} {R : Ending → World → Prop} {n : Nat} (p : P.funcs[f]? = some fn) (m : fn.body = some c) (q : fn.ntmps = n) (ha : args.length ≤ n) (h : CW P n c (ze P fn R) (DL args) w) : Calls P f args.toArray w R := by
 refine calls_of_wp p m ?_
 have i : Ag n { tmps := args.toArray ++ Array.replicate (fn.ntmps - args.toArray.size) undef, defers := [] } (DL args) := by
  refine ⟨by simp; omega, rfl, fun t => ?_⟩
  simp only [DL, fN, List.getD_eq_getElem?_getD, Array.getElem?_append, Array.getElem?_replicate, dV, List.getElem?_toArray]
  by_cases k : t < args.length
  ·rw [aX k]
  ·rw [bB k, iw (by omega)]
   split <;> simp
 refine wp_mono (h _ i) (fun e a r d => ?_)
 cases e with
 | normal =>
  obtain ⟨E, b, v, j, g⟩ := d
  exact ⟨b.2.1, v, j _ b.2.2, g⟩
 | ret =>
  obtain ⟨E, b, v, j, g⟩ := d
  exact ⟨b.2.1, v, j _ b.2.2, g⟩
 | exit id => obtain ⟨E, b, h⟩ := d; exact h.elim
 | goto l => obtain ⟨E, b, h⟩ := d; exact h.elim
 | panic c => exact d.elim
 | outgrown => exact d.elim
section
variable {P : Program} {fn : Func} {R : Ending → World → Prop} {E : Nat → Value} {W : World}
theorem mD {r : Tmp} {v : Value} (a : fn.results = #[.tmp r]) (d : E r = v) (h : R (.returned v) W) : ze P fn R .ret E W :=
 ⟨v, fun tmps b => by rw [results_tmp a, b, d], h⟩
theorem Ha {r s : Tmp} {v u : Value} (b : fn.results = #[.tmp r, .tmp s]) (d : E r = v) (hu : E s = u) (h : R (.returned (.tuple #[v, u])) W) : ze P fn R .ret E W :=
 ⟨.tuple #[v, u], fun tmps a => by rw [results_tmp2 b, a, a, d, hu], h⟩
theorem pV (a : fn.results = #[]) (h : R (.returned (.tuple #[])) W) : ze P fn R .ret E W :=
 ⟨.tuple #[], fun tmps _ => by rw [results_none a], h⟩
theorem nw {r : Tmp} {t : TypeId} {a : Addr} {v : Value} (b : fn.results = #[.cell r t]) (i : E r = .pointer (some a)) (g : (Instr.loadAt t (.pointer (some a))).run P W = .ok v W) (h : R (.returned v) W) : ze P fn R .ret E W :=
 ⟨v, fun tmps d => by
  have h1 : (loadVar t a).run P W = .ok v W := by simpa [Instr.loadAt, Instr.sureAddr] using g
  simp [results, b, d, i, asAddr, h1], h⟩
theorem rM (h : ze P fn R .ret E W) : ze P fn R .normal E W := h
end
section
variable {Q : qK} {E : Nat → Value} {W : World} {K : (Nat → Value) → World → Prop} {id j : Nat}
theorem lL (h : Q .normal E W) : xC id Q .normal E W := h
theorem nC (h : Q .ret E W) : xC id Q .ret E W := h
theorem qE (h : Q .normal E W) : xC id Q (.exit id) E W := by simp [xC]; exact h
theorem SC (a : (j = id) = False) (h : Q (.exit j) E W) : xC id Q (.exit j) E W := by simp only [xC, a, aG]; exact h
theorem kU (h : K E W) : rb K Q .normal E W := h
theorem lJ (h : Q .ret E W) : rb K Q .ret E W := h
theorem nJ (h : Q (.exit j) E W) : rb K Q (.exit j) E W := h
end
theorem N9 {i N : Nat} (b : i < N) (a : N ≤ 9223372036854775807) : IntKind.i64.wrap ((i : Int) + 1) = ((i + 1 : Nat) : Int) := by
 rw [IntWalk.i64_in _ (by omega)]
 omega
theorem mf {P : Program} {n : Nat} {Q : qK} {E : Nat → Value} {W : World} {g s U Y p q A u : Nat} {t1 t2 t3 t4 t5 t6 t7 : TypeId} {O R T : String} {f1 f2 f3 : Array Edge} {body : Code} (I : Nat → (Nat → Value) → World → Prop) (N : Nat) (J : N ≤ 9223372036854775807) (D : I 0 E W) (L : p < n) (M : u < n) (z : q < n) (G : ∀ i E W, I i E W → E q = .int .i64 (i : Nat) ∧ E A = .int .i64 (N : Nat)) (round : ∀ i E W, i < N → I i E W → CW P n (.block s body) (rb (fun E' W' => E' q = .int .i64 (i : Nat) ∧ I (i + 1) (oI (oI E' u (.int .i64 ((i + 1 : Nat) : Int))) q (.int .i64 ((i + 1 : Nat) : Int))) W') (xC g Q)) (oI E p (.bool true)) W) (done : ∀ E W, I N E W → Q .normal (oI E p (.bool false)) W) :
  CW P n (.block g (.loop (.seq (.region U #[⟨some p, .binOp .lss t1 (.tmp q) (.tmp A) t2, t3, O, f1, none⟩] false)
   (.seq (.cond (.tmp p) .skip (.exit g)) (.seq (.block s body)
    (.region Y #[⟨some u, .binOp .add t4 (.tmp q) (.const (.int .i64 1)) t5, t6, R, f2, none⟩, ⟨some q, .move (.tmp u), t7, T, f3, none⟩] false)))))) Q E W := by
 refine mK (nZ (fun m E W => ∃ i, i ≤ N ∧ m = N - i ∧ I i E W) N ⟨0, fL _, by omega, D⟩ ?_)
 rintro m E W ⟨i, Z, rfl, d⟩
 obtain ⟨w, x⟩ := G i E W d
 refine kZ (kW (Io (.inl rfl) rfl L (lR w x rfl) (lH ?_)))
 refine kU (kZ ?_)
 have t : oI E p (.bool (decide ((i : Int) < (N : Int)))) p = .bool (decide ((i : Int) < (N : Int))) := by simp [oI]
 by_cases r : i < N
 ·have y : decide ((i : Int) < (N : Int)) = true := by simp; omega
  rw [y] at t ⊢
  refine vr t (mr (kU (kZ ?_)))
  refine H7 (round i E W r d) (fun e E' W' h => ?_)
  cases e with
  | normal =>
   obtain ⟨h1, F⟩ := h
   refine kU ?_
   have hw : IntKind.i64.wrap ((i : Int) + 1) = ((i + 1 : Nat) : Int) := N9 r J
   refine kW (Io (v := .int .i64 ((i + 1 : Nat) : Int)) (.inl rfl) rfl M (lR (k := .i64) (a := (i : Int)) (b := 1) h1 rfl (by simp only [Js, hw])) ?_)
   refine Io (v := .int .i64 ((i + 1 : Nat) : Int)) (.inl rfl) rfl z (kT (by simp [kV, oI])) (lH ?_)
   exact kU ⟨N - (i + 1), by omega, i + 1, by omega, rfl, F⟩
  | exit j => exact h
  | goto l => exact h
  | ret => exact h
  | panic c => exact h
  | outgrown => exact h
 ·have y : decide ((i : Int) < (N : Int)) = false := by simp; omega
  rw [y] at t ⊢
  obtain rfl : i = N := by omega
  refine rT t (nT (nJ (nJ (qE ?_))))
  exact done E W d
theorem On {P : Program} {n : Nat} {x : Code} {Q : qK} {K : (Nat → Value) → World → Prop} {E : Nat → Value} {W : World} (J : (Nat → Value) → World → Prop) (h : CW P n x (rb J Q) E W) (k : ∀ E W, J E W → K E W) : CW P n x (rb K Q) E W :=
 H7 h (fun e E W h => by cases e <;> first | exact k E W h | exact h)
theorem M0 {α : Type} {c : Bool} {x y r : α} (a : c = true) (h : (if c = true then x else y) = r) : x = r := by rw [aX a] at h; exact h
theorem M3 {α : Type} {c : Bool} {x y r : α} (a : c = false) (h : (if c = true then x else y) = r) : y = r := by rw [bB (by rw [a]; decide)] at h; exact h
theorem bind_some {α β : Type} {o : Option α} {f : α → Option β} {r : β} (h : o.bind f = some r) : ∃ y, o = some y ∧ f y = some r := by
 cases o with
 | none => cases h
 | some y => exact ⟨y, rfl, h⟩
theorem No (b : Bool) : b = true ∨ b = false := by cases b <;> simp
theorem lT {α : Type} {l : List α} {i : Nat} (h : i < l.length) : ∃ x xs, l.drop i = x :: xs ∧ l[i]? = some x ∧ l.drop (i + 1) = xs := by
 cases a : l.drop i with
 | nil => have := bL List.length a; simp at this; omega
 | cons x xs => exact ⟨x, xs, rfl, by rw [← List.head?_drop, a]; rfl, by rw [← List.drop_drop, a]; rfl⟩
theorem ER {P : Program} {W : World} (d : Nat) (xs ys : Array Value) : (Op.eqFields d xs ys []).run P W = .ok true W := by simp [Op.eqFields]
theorem sw {P : Program} {W : World} {d : Nat} {xs ys : Array Value} {f : Field} {fs : List Field} {a b : Value} {r s : Bool} (i : f.name ≠ "_") (ha : (part f.type xs f.offset).run P W = .ok a W) (g : (part f.type ys f.offset).run P W = .ok b W) (he : (Op.equalIn d f.type a b).run P W = .ok r W) (h : (Op.eqFields d xs ys fs).run P W = .ok s W) : (Op.eqFields d xs ys (f :: fs)).run P W = .ok (r && s) W := by
 simp only [Op.eqFields, ne_eq, i, not_false_eq_true, aN, cK, ha, g, he, bQ]
 cases r <;> simp [h]
theorem Ap {P : Program} {W : World} {t : TypeId} {k : Nat} {cs : Array Value} {off : Nat} {v : Array Value} (a : ∀ w, (isAgg t).run P w = .ok true w) (b : ∀ w, (sizeOf t).run P w = .ok k w) (d : cs.extract off (off + k) = v) : (part t cs off).run P W = .ok (.agg v) W := by
 simp [part, a W, b W, d]
theorem qO {P : Program} {W : World} {t : TypeId} {cs : Array Value} {off : Nat} {v : Value} (a : ∀ w, (isAgg t).run P w = .ok false w) (b : cs[off]? = some v) : (part t cs off).run P W = .ok v W := by
 simp [part, a W, b]
def mx (a b : ByteArray) : Bool := a.toList == b.toList
theorem P8 {P : Program} {t : TypeId} (g : P.underlying t = some .string) (d : Nat) (a b : ByteArray) (W : World) : (Op.equalIn (d + 1) t (.string a) (.string b)).run P W = .ok (mx a b) W := run_equalIn_string W d t a b g
theorem Sd {P : Program} {t : TypeId} {k : IntKind} (g : P.underlying t = some (.int k)) (d : Nat) (a b : Int) (W : World) : (Op.equalIn (d + 1) t (.int k a) (.int k b)).run P W = .ok (a == b) W := run_equalIn_int W d t k k a b g
theorem nW {P : Program} {op : BinOp} {t : TypeId} {x y : Operand} {a b : Array Value} (d : P.eqGuardType P.depth t = false) (W : World) : (eqGuard op t x y (.agg a) (.agg b)).run P W = .ok () W := by
 cases op <;> simp [eqGuard] <;> (intro h; rw [d] at h; cases h)
theorem ra {P : Program} {t : TypeId} {a b : Array Value} {r : Bool} (h : ∀ W, (Op.equalIn Op.maxDepth t (.agg a) (.agg b)).run P W = .ok r W) (W : World) : (binOp .eql t (.agg a) (.agg b)).run P W = .ok (.bool r) W := by
 simp [binOp, Op.equal, h W]
theorem Al {P : Program} {t : TypeId} {a b : Array Value} {r : Bool} (h : ∀ W, (Op.equalIn Op.maxDepth t (.agg a) (.agg b)).run P W = .ok r W) (W : World) : (binOp .neq t (.agg a) (.agg b)).run P W = .ok (.bool !r) W := by
 simp [binOp, Op.equal, h W]
end Go.Proofs.YtklbhegeiijbjaaGreat
namespace Go.Proofs.YtklbhegeiijbjaaGreat
open Go.RowKit
variable {dd : Bool}
def mM (k : IntKind) (x : Int) : List Value := [.int k x]
def Sc (x : Bool) : List Value := [.bool x]
def uv (x : ByteArray) : List Value := [.string x]
theorem GV (k : IntKind) (x : Int) : ∀ u ∈ mM k x, u.oneCell' = true := by intro u hu; simp [mM] at hu; subst hu; rfl
theorem TV (x : Bool) : ∀ u ∈ Sc x, u.oneCell' = true := by intro u hu; simp [Sc] at hu; subst hu; rfl
theorem Ku (x : ByteArray) : ∀ u ∈ uv x, u.oneCell' = true := by intro u hu; simp [uv] at hu; subst hu; rfl
def zS : ByteArray := ⟨#[]⟩
def rq (a b : ByteArray) : Bool := Op.bytesLess a.toList b.toList
@[irreducible] def lF : Nat := 18446744073709551616
theorem yi : lF = 18446744073709551616 := by unfold lF; rfl
def mP {α : Type} (l : List α) (i : Int) : Option α := if 0 ≤ i then l[i.toNat]? else none
theorem lM {α : Type} {l : List α} {i : Int} {x : α} (h : mP l i = some x) : 0 ≤ i := by
 unfold mP at h; split at h
 ·assumption
 ·cases h
theorem lK {α : Type} {l : List α} {i : Int} {x : α} (h : mP l i = some x) : l[i.toNat]? = some x := by
 unfold mP at h; split at h
 ·exact h
 ·cases h
theorem FB {α : Type} (l : List α) (i : Nat) : mP l (i : Int) = l[i]? := by simp [mP]
def Bo (s : ByteArray) (i : Int) : Option UInt8 := if 0 ≤ i then s[i.toNat]? else none
theorem AH {s : ByteArray} {i : Int} {x : UInt8} (h : Bo s i = some x) : 0 ≤ i := by
 unfold Bo at h; split at h
 ·assumption
 ·cases h
theorem D1 {s : ByteArray} {i : Int} {x : UInt8} (h : Bo s i = some x) : s[i.toNat]? = some x := by
 unfold Bo at h; split at h
 ·exact h
 ·cases h
section
variable {F : Nat → Prop} {w W : World} {μ : lQ} {L L' : List (Nat × Obj)} {α : Type} {e : TypeId} {enc : α → List Value} {k : Nat} {v : Value} {l : List α} {R : List (Nat × Obj)}
theorem ST.at_ (h : ST dd F w W μ L) {b : Nat} {o : Obj} (a : (b, o) ∈ L) : hp W b = some o := (h.box b o a).1
theorem lA.TJ (h : lA e enc k v l R) (hk : ∀ x, (enc x).length = k) (a : ST dd F w W μ L) (b : ∀ p, p ∈ R → p ∈ L) : Sl (Pl enc) k (hp W) v l :=
 h.sl hk (fun _ _ d => a.at_ (b _ d))
theorem lA.form (h : lA e enc k v l R) : ∃ A c, v = .slice A l.length c := by
 rcases h with ⟨rfl, rfl, rfl⟩ | ⟨g, cap, a, rfl, rfl, h1, b, d, i⟩
 ·exact ⟨_, _, rfl⟩
 ·exact ⟨_, _, rfl⟩
theorem Sl.form {R : rA α} (h : Sl R k μ v l) : ∃ A c, v = .slice A l.length c := let ⟨A, c, h, _⟩ := h; ⟨A, c, h⟩
theorem lA.RK (h : lA e enc k v l R) (d : ST dd lU w W μ L) (j : ∀ p, p ∈ R → p ∈ L) : Fr w.heap.size v := by
 rcases h with ⟨rfl, rfl, rfl⟩ | ⟨g, cap, a, rfl, rfl, h1, m, n, q⟩
 ·exact Fr.nil _
 ·intro b i
  simp [Value.ownBlock] at i
  subst i
  rcases (d.box g (.cells a e (0, 0)) (j _ (cM.2 rfl))).2.2 with h | h
  ·exact h
  ·exact h.elim
theorem Sl.lit {b m : Nat} {cs : Array Value} (hk : ∀ x, (enc x).length = k) (hm : l.length = m) (d : m ≤ maxLen) (a : cs.toList = (l.map enc).flatten) (g : μ b = some (.cells cs e (0, 0))) : Sl (Pl enc) k μ (.slice (some ⟨b, 0, none⟩) m m) l :=
 (lA.lit (e := e) (b := b) hm d a (by have := bL List.length a; rw [pL hk, dJ, hm] at this; exact this)).sl hk (fun i o h => by simp at h; obtain ⟨rfl, rfl⟩ := h; exact g)
theorem Fr.box (h : ST dd lU w W μ L) {b m c : Nat} {o : Obj} (d : (b, o) ∈ L) : Fr w.heap.size (.slice (some ⟨b, 0, none⟩) m c) := by
 intro g a
 simp [Value.ownBlock] at a
 subst a
 rcases (h.box b o d).2.2 with h | h
 ·exact h
 ·exact h.elim
theorem ST.perm (h : ST dd F w W μ L) (hp : L.Perm L') : ST dd F w W μ L' :=
 ⟨h.os, h.tape, h.output, h.drawn, h.size, h.nI, h.mem, fun b o a => h.box b o (hp.mem_iff.2 a), (hp.map _).nodup_iff.1 h.nd⟩
theorem ST.sublist (h : ST dd F w W μ L) (a : L'.Sublist L) : ST dd F w W μ L' :=
 ⟨h.os, h.tape, h.output, h.drawn, h.size, h.nI, h.mem, fun b o d => h.box b o (a.subset d), h.nd.sublist (a.map _)⟩
end
section
variable {E : Nat → Value} {x1 x2 x3 x4 x5 x6 : Operand} {v1 v2 v3 v4 v5 v6 : Value}
theorem wE (h1 : kV E x1 = v1) : #[x1].map (kV E) ++ (#[] : Array Value) = [v1].toArray := by simp [h1]
theorem yl (h1 : kV E x1 = v1) (a : kV E x2 = v2) : #[x1, x2].map (kV E) ++ (#[] : Array Value) = [v1, v2].toArray := by simp [h1, a]
end
theorem IP : ∀ (v : List Value) (i off : Nat) (cells : Array Value), off + i + v.length ≤ cells.size →
  (v.zipIdx i).foldl (fun cs (c, j) => cs.setIfInBounds (off + j) c) cells = (cells.toList.take (off + i) ++ v ++ cells.toList.drop (off + i + v.length)).toArray
 | [], i, off, cells, h => by simp
 | c :: v, i, off, cells, h => by
  simp only [ke, iV]
  simp only [aJ] at h
  rw [IP v (i + 1) off _ (by simp; omega)]
  have d : off + i < cells.toList.length := by simp; omega
  congr 1
  rw [Array.toList_setIfInBounds]
  apply fM
  intro j
  have g : (cells.toList.take (off + i)).length = off + i := by simp; omega
  by_cases h1 : j < off + i
  ·simp only [iF, aF, cQ, jA, dJ, aJ, gS, gF, dY]
   rw [show min (off + (i + 1)) cells.size = off + (i + 1) by omega, show min (off + i) cells.size = off + i by omega]
   rw [aX (by omega), aX (by omega), aX (by omega), bB (by omega), aX (by omega), aX (by omega), aX (by omega)]
  ·by_cases b : j = off + i
   ·subst b
    simp [iF, gS, gF, show off + i < off + (i + 1) by omega]
    rw [aX (by omega), aX (by omega), bB (by omega), show off + i - min (off + i) cells.size = 0 by omega]
    rfl
   ·simp only [iF, aF, cQ, jA, dJ, aJ, gS, gF, dY]
    rw [show min (off + (i + 1)) cells.size = off + (i + 1) by omega, show min (off + i) cells.size = off + i by omega]
    by_cases a : j < off + (i + 1) + v.length
    ·rw [aX a, bB (by omega), aX (by omega), bB (by omega)]
     rw [show j - (off + i) = (j - (off + (i + 1))) + 1 by omega]
     simp
    ·rw [bB a, bB (by omega), bB (by omega)]
     congr 1
     omega
theorem Kw {k : Nat} : ∀ (vs : List Value) (i : Nat) (pre rest : List Value), (∀ v ∈ vs, v.cells.size = k) → pre.length = i * k → rest.length = vs.length * k →
  Instr.fill (fun i => some (i * k, k)) (pre ++ rest).toArray ((vs.zipIdx i).map (fun p => (p.2, p.1))) = some (pre ++ vs.flatMap (fun v => v.cells.toList)).toArray
 | [], i, pre, rest, d, hp, b => by
  have : rest = [] := by cases rest <;> simp at b ⊢
  simp [Instr.fill, this]
 | v :: vs, i, pre, rest, d, hp, b => by
  have a := d v (by simp)
  have g : v.cells.zipIdx.foldl (fun cs (c, j) => cs.setIfInBounds (i * k + j) c) (pre ++ rest).toArray = (pre ++ v.cells.toList ++ rest.drop k).toArray := by
   have := IP v.cells.toList 0 (i * k) (pre ++ rest).toArray (by simp [hp, b, a, cP])
   rw [← Array.toList_zipIdx, Array.foldl_toList] at this
   rw [this]
   congr 1
   simp [← hp, a]
  simp only [ke, bP, Instr.fill]
  rw [bB (by simp [a, hp, b, cP]), g]
  have := Kw vs (i + 1) (pre ++ v.cells.toList) (rest.drop k) (fun u hu => d u (by simp [hu])) (by simp [hp, a, cP]) (by simp [b, cP])
  rw [this]
  simp
theorem OY {k m : Nat} {a cs : Array Value} {b : Array (Nat × Value)} (vs : List Value) (g : b.toList = vs.zipIdx.map (fun p => (p.2, p.1))) (j : ∀ v ∈ vs, v.cells.size = k) (hm : vs.length = m) (h : a.size = m * k) (d : (vs.flatMap (fun v => v.cells.toList)).toArray = cs) : Instr.fill (fun i => some (i * k, k)) a b.toList = some cs := by
 subst hm d
 rw [g]
 have := Kw vs 0 [] a.toList j (by simp) (by simpa using h)
 simpa using this
theorem Ax {P : Program} {t e : TypeId} {m k : Nat} {z : Value} {a : Array (Nat × Value)} {cs : Array Value} (vs : List Value) (i : P.underlying t = some (.slice e)) (h : ∀ w, (sizeOf e).run P w = .ok k w) (l : ∀ w, (zeroValue e).run P w = .ok z w) (hm : m * k ≤ 16777216) (g : a.toList = vs.zipIdx.map (fun p => (p.2, p.1))) (j : ∀ v ∈ vs, v.cells.size = k) (d : vs.length = m) (b : (vs.flatMap (fun v => v.cells.toList)).toArray = cs) (W : World) :
  (Instr.buildSlice t m a).run P W = .ok (.slice (some ⟨W.heap.size, 0, none⟩) m m) (W.alloc (.cells cs e (0, 0))) :=
 HZ i h l hm (OY vs g j d (by simp) b) W
theorem rp {E : Nat → Value}  : (#[] : Array (Nat × Operand)).map (fun (i, x) => (i, kV E x)) = #[] := by simp
theorem ni {E : Nat → Value} {x0 : Operand} {v0 : Value} {i0 : Nat} (a : kV E x0 = v0) : (#[(i0, x0)] : Array (Nat × Operand)).map (fun (i, x) => (i, kV E x)) = #[(i0, v0)] := by simp [a]
theorem oJ {E : Nat → Value} {x0 x1 : Operand} {v0 v1 : Value} {i0 i1 : Nat} (a : kV E x0 = v0) (h1 : kV E x1 = v1) : (#[(i0, x0), (i1, x1)] : Array (Nat × Operand)).map (fun (i, x) => (i, kV E x)) = #[(i0, v0), (i1, v1)] := by simp [a, h1]
theorem A8 {E : Nat → Value} {x0 x1 x2 : Operand} {v0 v1 v2 : Value} {i0 i1 i2 : Nat} (a : kV E x0 = v0) (h1 : kV E x1 = v1) (b : kV E x2 = v2) : (#[(i0, x0), (i1, x1), (i2, x2)] : Array (Nat × Operand)).map (fun (i, x) => (i, kV E x)) = #[(i0, v0), (i1, v1), (i2, v2)] := by simp [a, h1, b]
theorem R5 {E : Nat → Value} {x0 x1 x2 x3 : Operand} {v0 v1 v2 v3 : Value} {i0 i1 i2 i3 : Nat} (a : kV E x0 = v0) (h1 : kV E x1 = v1) (b : kV E x2 = v2) (d : kV E x3 = v3) : (#[(i0, x0), (i1, x1), (i2, x2), (i3, x3)] : Array (Nat × Operand)).map (fun (i, x) => (i, kV E x)) = #[(i0, v0), (i1, v1), (i2, v2), (i3, v3)] := by simp [a, h1, b, d]
theorem my {P : Program} {t : TypeId} {f off : Nat} {fs : Array Field} {fd : Field} (h : P.underlying t = some (.struct fs)) (a : fs[f]? = some fd) {k : Nat} (g : ∀ w, (sizeOf fd.type).run P w = .ok k w) (hk : k ≠ 0) (d : fd.offset = off) : nl P t f off := by
 intro b o w
 subst d
 simp [Instr.fieldAt, aV h, a, Instr.sureAddr, fieldPlace, dG, g w, hk]
theorem Ag.G3 {n : Nat} {a : Act} {E : Nat → Value} (h : Ag n a E) {ops : Array Oper} {j t : Nat} (d : (ops[j]?).bind (·.dst) = some t) (i : t < n) (k : E t = undef) : yielded ops a.tmps j = none := by
 have b := h.2.2 t
 have g : a.tmps[t]? = some (E t) := by
  rw [← b]
  simp [fN, h.1, i]
 simp [yielded, d, g, k, undef]
theorem R9 {P : Program} {n : Nat} {Q : qK} {E : Nat → Value} {W : World} {ops : Array Oper} {rest : List Oper} {o : Oper} {d j t : Nat} {want : Bool} (g : o.dst = some d) (l : d < n) (i : o.guard = some (j, want)) (k : (ops[j]?).bind (·.dst) = some t) (m : t < n) (b : E t = undef) (h : LW P n ops Q rest (oI E d undef) W) : LW P n ops Q (o :: rest) E W := fun a ha => by
 unfold wpList
 have p := ha.G3 k m b
 rw [bB (by simp [Region.wanted, i, p])]
 rw [g]
 exact h _ (ha.put l _)
theorem SK {P : Program} {n : Nat} {Q : qK} {E : Nat → Value} {W : World} {ops : Array Oper} {rest : List Oper} {A : Value → Prop} {o : Oper} {dd : Nat} (hw : ul n ops E o) (b : o.dst = some dd) (d : dd < n) (g : ∃ p, A p ∧ ∀ W, nc P E o W p W) (h : ∀ p, A p → LW P n ops Q rest (oI E dd p) W) : LW P n ops Q (o :: rest) E W := by
 obtain ⟨p, h1, a⟩ := g
 exact Io hw b d (a W) (h p h1)
end Go.Proofs.YtklbhegeiijbjaaGreat
namespace Go.Proofs.YtklbhegeiijbjaaGreat
open Go.RowKit
variable {dd : Bool}
theorem qw {P : Program} {n : Nat} {x : Code} {Q : qK} {E : Nat → Value} {W : World} (h : CW P n x (rb (fun E W => Q .normal E W) Q) E W) : CW P n x Q E W :=
 H7 h (fun e E W h => by cases e <;> exact h)
section
variable {P : Program} {n : Nat} {Q : qK} {E : Nat → Value} {W : World} {d : Option Nat} {ty : TypeId} {pos : String} {af : Array Edge} {g : Option (Nat × Bool)}
 {F : Nat → Prop} {w : World} {μ : lQ} {L : List (Nat × Obj)}
def Qe (k : IntKind) (op : BinOp) (a b : Int) : Option Value :=
 match op with
 | .quo => some (.int k (k.wrap (a.tdiv b)))
 | .rem => some (.int k (a.tmod b))
 | .and => some (.int k (k.wrap (BitVec.ofInt k.bits a &&& BitVec.ofInt k.bits b).toNat))
 | .or => some (.int k (k.wrap (BitVec.ofInt k.bits a ||| BitVec.ofInt k.bits b).toNat))
 | _ => none
theorem JA {op : BinOp} {h n : TypeId} {x y : Operand} {k : IntKind} {a b : Int} {v : Value} (l : kV E x = .int k a) (m : kV E y = .int k b) (j : b ≠ 0) (i : Qe k op a b = some v) :
  nc P E ⟨d, .binOp op h x y n, ty, pos, af, g⟩ W v W := by
 show (do let r ← (do eqGuard op h x y (kV E x) (kV E y); binOp op h (kV E x) (kV E y)); pure (.value r) : Sem Next).run P W = _
 rw [l, m]
 cases op <;> simp [Qe] at i <;> subst i <;> simp [eqGuard, binOp, Op.intDiv, Op.intBits, j]
theorem HK {h l : TypeId} {x y : Operand} {k k' : IntKind} {a b : Int} (i : kV E x = .int k a) (j : kV E y = .int k' b) (m : 0 ≤ b) :
  nc P E ⟨d, .binOp .shr h x y l, ty, pos, af, g⟩ W (.int k (a.fdiv (2 ^ min b.toNat k.bits))) W := by
 show (do let r ← (do eqGuard .shr h x y (kV E x) (kV E y); binOp .shr h (kV E x) (kV E y)); pure (.value r) : Sem Next).run P W = _
 rw [i, j]
 simp [eqGuard, binOp, Op.shift, show ¬ b < 0 by omega]
theorem sC {s t : TypeId} {x : Operand} {k k' : IntKind} {a : Int} {u : TypeDesc} (b : P.underlying s = some u) (h : P.underlying t = some (.int k)) (i : kV E x = .int k' a) :
  nc P E ⟨d, .convert s t x, ty, pos, af, g⟩ W (.int k (k.wrap a)) W := by
 show (do pure (.value (← convert s t (kV E x))) : Sem Next).run P W = _
 rw [i]
 simp [convert, aV b, aV h, Conv.intToInt]
theorem H9 {t e : TypeId} (dd : Nat) (a : P.underlying t = some (.slice e)) (A : Option Addr) (l c : Nat) (W : World) : (Op.equalIn (dd + 1) t (.slice A l c) (.slice none 0 0)).run P W = .ok A.isNone W := by
 cases A <;> simp [Op.equalIn, aV a]
theorem AS {a k e : TypeId} {x y : Operand} {A : Option Addr} {l c : Nat} (h : P.underlying a = some (.slice e)) (i : kV E x = .slice A l c) (j : kV E y = .slice none 0 0) :
  nc P E ⟨d, .binOp .eql a x y k, ty, pos, af, g⟩ W (.bool A.isNone) W := by
 show (do let r ← (do eqGuard .eql a x y (kV E x) (kV E y); binOp .eql a (kV E x) (kV E y)); pure (.value r) : Sem Next).run P W = _
 rw [i, j]
 have b := H9 9999 h A l c W
 simp [eqGuard, binOp, Op.equal, show Op.maxDepth = 9999 + 1 from rfl, b]
def um (s : ByteArray) : List Int := s.data.toList.map (fun b => (b.toNat : Int))
def DF (s : ByteArray) : Option (List Int) := if s.size ≤ maxLen then some (um s) else none
theorem qp (s : ByteArray) : (um s).length = s.size := by simp only [um, dD, dJ]; rfl
theorem Nc {s : ByteArray} {cap i : Nat} {x : Int} (h : (um s)[i]? = some x) : (bytesRow s cap)[i]? = some (.int .u8 x) := by
 have g : i < s.size := by have := (bM.1 h).1; rwa [qp] at this
 have a : i < s.data.size := g
 simp [um] at h
 obtain ⟨b, d, rfl⟩ := h
 rw [bytesRow, Array.getElem?_append_left (by simpa using a)]
 simp [d]
theorem I4 {K : Value → World → Prop} {s t e : TypeId} {x : Operand} {str : ByteArray} {l : List Int} (k : ST dd F w W μ L) (r : P.underlying s = some .string) (q : P.underlying t = some (.slice e)) (he : P.underlying e = some (.int .u8)) (n : kV E x = .string str) (a : DF str = some l) (h : ∀ W' v μ', ST dd F w W' μ' L → lu μ μ' → Lo F w μ μ' → Sl (Pl (mM .u8)) 1 μ' v l → Fr w.heap.size v → K v W') : ov P E ⟨d, .convert s t x, ty, pos, af, g⟩ W K := by
 unfold DF at a
 split at a
 case isFalse => cases a
 rename_i hm
 cases a
 have m := run_bytes_of_string (P := P) W s t e str r q he
 have h1 := k.drew.alloc (.cells (bytesRow str (grownCap W str.size 0 e)) e ((bytesRow str (grownCap W str.size 0 e)).size, (bytesRow str (grownCap W str.size 0 e)).size + 1))
 refine .inl ⟨.slice (some ⟨W.heap.size, 0, none⟩) str.size (grownCap W str.size 0 e), _, ?_, h _ _ _ (ST.Is (A := []) h1) (ST.H6 (A := []) h1) (ST.Ov (A := []) h1) ?_ ?_⟩
 ·show (do pure (.value (← convert s t (kV E x))) : Sem Next).run P W = _
  rw [n]
  simp only [cK, m, bQ, dH]
 ·refine ⟨_, grownCap W str.size 0 e, by rw [qp], by rw [qp]; exact grownCap_ge W str.size 0 e, grownCap_le_maxLen W str.size 0 e hm, fun _ => ⟨W.heap.size, 0, bytesRow str (grownCap W str.size 0 e), e, _, rfl, aX rfl, fun i x n => ⟨_, rfl, rfl, fun j y p => ?_⟩⟩⟩
  cases j with
  | zero => simp [mM] at p; subst p; simpa using Nc n
  | succ j => simp [mM] at p
 ·intro b a
  simp [Value.ownBlock] at a
  subst a
  exact k.size
def CL (l : List Int) : ByteArray := l.foldl (fun r n => r.push (UInt8.ofNat n.toNat)) ByteArray.empty
theorem FI {s t e : TypeId} {x : Operand} {v : Value} {l : List Int} (z : P.underlying s = some (.slice e)) (he : P.underlying e = some (.int .u8)) (y : P.underlying t = some .string) (F : kV E x = v) (D : Sl (Pl (mM .u8)) 1 (hp W) v l) :
  nc P E ⟨d, .convert s t x, ty, pos, af, g⟩ W (.string (CL l)) W := by
 show (do pure (.value (← convert s t (kV E x))) : Sem Next).run P W = _
 obtain ⟨A, c, rfl, G, I, q⟩ := D
 rw [F]
 simp only [cK, run_convert_bytes_string W s t e A l.length c z he y]
 rcases fG l.length with h | h
 ·have : l = [] := eZ.1 h
  subst this
  cases A with
  | none => simp [Conv.bytesToString, CL]
  | some a =>
   have r := run_bytesToString (P := P) W a 0 c [] (by simpa using jL (P := P) W a [] (by simp))
   simp only [bV]
   rw [r]
   simp [CL]
 ·obtain ⟨b, off, cs, T, fr, rfl, u, w⟩ := q h
  have p := jL (P := P) W ⟨b, off, none⟩ (l.map (Value.int .u8)) (fun j v n => by
   simp at n
   obtain ⟨x, k, rfl⟩ := n
   obtain ⟨ys, _, m, i⟩ := w j x k
   cases m
   rw [dG, iE W b (off + j) cs T fr u]
   have := i 0 (.int .u8 x) rfl
   simpa using this)
  simp only [dD] at p
  rw [run_bytesToString W _ l.length c l p]
  simp [CL]
end
end Go.Proofs.YtklbhegeiijbjaaGreat
namespace Go.Proofs.YtklbhegeiijbjaaGreat
open Go.RowKit
variable {dd : Bool}
def keys (L : List (Nat × Obj)) : Nat → Prop := fun b => ∃ o, (b, o) ∈ L
structure Uo (dd : Bool) (F : Nat → Prop) (w W : World) : Prop where
 os : W.os = w.os
 tape : W.tape = w.tape
 output : W.output = w.output
 drawn : ve dd w.drawn W.drawn
 size : w.heap.size ≤ W.heap.size
 nI : ∀ b, b < w.heap.size → ¬ F b → W.heap[b]? = w.heap[b]?
def E7 (L : List (Nat × Obj)) (W : World) : Prop := ∀ b o, (b, o) ∈ L → W.heap[b]? = some o
structure vj (dd : Bool) (L0 L1 : List (Nat × Obj)) (w w' : World) : Prop where
 ex : Uo dd (keys L0) w w'
 held : ∀ b o, (b, o) ∈ L1 → w'.heap[b]? = some o ∧ (w.heap.size ≤ b ∨ keys L0 b)
 nd : (L1.map (·.1)).Nodup
open Classical in
noncomputable def vI (w : World) (L : List (Nat × Obj)) : lQ := fun b => if keys L b then none else w.heap[b]?
open Classical in
noncomputable def CB (μ : lQ) (W W' : World) (L1 : List (Nat × Obj)) : lQ := fun b => if b < W.heap.size then μ b else if keys L1 b then none else W'.heap[b]?
section
variable {F : Nat → Prop} {w W W' : World} {μ μ' : lQ} {L L0 L1 : List (Nat × Obj)}
theorem ST.Sk (a : E7 L0 w) (d : (L0.map (·.1)).Nodup) : ST dd (keys L0) w w (vI w L0) L0 :=
 ⟨rfl, rfl, rfl, ve.of (aZ _), aZ _, fun _ _ _ => rfl, fun b o h => by
  unfold vI at h; split at h
  ·cases h
  ·exact h, fun b o h => ⟨a b o h, by unfold vI; rw [aX ⟨o, h⟩], .inr ⟨o, h⟩⟩, d⟩
theorem FG {A B : List (Nat × Obj)} (h : ((A ++ B).map (·.1)).Nodup) {b : Nat} {o : Obj} (a : (b, o) ∈ B) : ¬ keys A b := by
 rintro ⟨g, d⟩
 rw [cL] at h
 exact (cE.1 h).2.2 b (bN.2 ⟨_, d, rfl⟩) b (bN.2 ⟨_, a, rfl⟩) rfl
theorem ST.back (h : ST dd F w W μ (L0 ++ L)) (j : vj dd L0 L1 W W') : ST dd F w W' (CB μ W W' L1) (L1 ++ L) := by
 have hk : ∀ b, keys L0 b → b < W.heap.size ∧ μ b = none ∧ (w.heap.size ≤ b ∨ F b) := fun b ⟨o, d⟩ => by
  obtain ⟨h1, g, m⟩ := h.box b o (cO _ d)
  exact ⟨ph h1, g, m⟩
 refine ⟨j.ex.os.trans h.os, j.ex.tape.trans h.tape, j.ex.output.trans h.output, ve.trans h.drawn j.ex.drawn, dF h.size j.ex.size, fun b i n => ?_, fun b o d => ?_, fun b o d => ?_, ?_⟩
 ·rw [j.ex.nI b (eY i h.size) (fun k => by
   rcases (hk b k).2.2 with h | h
   ·omega
   ·exact n h)]
  exact h.nI b i n
 ·unfold CB at d
  split at d
  ·rename_i i
   rw [j.ex.nI b i (fun k => by rw [(hk b k).2.1] at d; cases d)]
   exact h.mem b o d
  ·split at d
   ·cases d
   ·exact d
 ·rcases aW.1 d with d | d
  ·obtain ⟨h1, g⟩ := j.held b o d
   refine ⟨h1, ?_, ?_⟩
   ·unfold CB
    split
    ·rename_i i
     rcases g with g | g
     ·omega
     ·exact (hk b g).2.1
    ·rw [aX ⟨o, d⟩]
   ·rcases g with g | g
    ·exact .inl (dF h.size g)
    ·exact (hk b g).2.2
  ·obtain ⟨h1, g, m⟩ := h.box b o (eV _ d)
   refine ⟨?_, ?_, m⟩
   ·rw [j.ex.nI b (ph h1) (FG h.nd d)]; exact h1
   ·unfold CB; rw [aX (ph h1)]; exact g
 ·rw [cL]
  have q : (L.map (·.1)).Nodup := by have := h.nd; rw [cL] at this; exact (cE.1 this).2.1
  refine cE.2 ⟨j.nd, q, fun a ha c r e => ?_⟩
  subst e
  obtain ⟨⟨b, o⟩, d, rfl⟩ := bN.1 ha
  obtain ⟨⟨p, s⟩, l, e⟩ := bN.1 r
  simp at e; subst e
  have i := h.G0 (eV _ l)
  rcases (j.held p o d).2 with g | g
  ·omega
  ·exact FG h.nd l g
theorem ST.KE (h : ST dd F w W μ L) (W' : World) (L1 : List (Nat × Obj)) : Lo F w μ (CB μ W W' L1) := fun b a _ => aX (eY a h.size)
theorem ST.IJ (h : ST dd F w W μ L) (W' : World) (L1 : List (Nat × Obj)) : lu μ (CB μ W W' L1) := fun b o a => by
 unfold CB; rw [aX (h.FC a)]; exact a
theorem ST.lX (h : ST dd F w W μ L) (d : ∀ p, p ∈ L0 → p ∈ L) : lu μ (vI W L0) := fun b o a => by
 unfold vI
 rw [bB]
 ·exact h.mem b o a
 ·rintro ⟨i, g⟩
  rw [(h.box b i (d _ g)).2.1] at a
  cases a
theorem vj.Jx (h : Ex dd w W) (d : ∀ b o, (b, o) ∈ L1 → W.heap[b]? = some o ∧ w.heap.size ≤ b) (g : (L1.map (·.1)).Nodup) : vj dd [] L1 w W :=
 ⟨⟨h.os, h.tape, h.output, h.drawn, h.size, fun b a _ => h.nI b a⟩, fun b o a => ⟨(d b o a).1, .inl (d b o a).2⟩, g⟩
end
def mZ (dd : Bool) (P : Program) (f : FuncId) (args : List Value) (w : World) (L0 : List (Nat × Obj)) (K : Value → List (Nat × Obj) → World → Prop) : Prop :=
 Calls P f args.toArray w fun e a => ∃ v L1, e = .returned v ∧ vj dd L0 L1 w a ∧ K v L1 a
def nA (dd : Bool) {α : Type} (P : Program) (f : FuncId) (args : List Value) (w : World) (e : TypeId) (enc : α → List Value) (k : Nat) (l : List α) : Prop :=
 mZ dd P f args w [] fun v R _ => lA e enc k v l R
theorem vj.mR {L0 L1 : List (Nat × Obj)} {w a : World} (h : vj true L0 L1 w a) : vj dd L0 L1 w a := ⟨⟨h.ex.os, h.ex.tape, h.ex.output, ve.of (h.ex.drawn rfl), h.ex.size, h.ex.nI⟩, h.held, h.nd⟩
theorem lE.mR {P : Program} {f : FuncId} {args : List Value} {w : World} {v : Value} (h : lE true P f args w v) : lE dd P f args w v := dZ h fun _ _ h => ⟨h.1, h.2.mR⟩
theorem mZ.mR {P : Program} {f : FuncId} {args : List Value} {w : World} {L0 : List (Nat × Obj)} {K : Value → List (Nat × Obj) → World → Prop} (h : mZ true P f args w L0 K) : mZ dd P f args w L0 K := dZ h fun _ _ ⟨v, L1, h1, a, b⟩ => ⟨v, L1, h1, a.mR, b⟩
theorem nA.mR {α : Type} {P : Program} {f : FuncId} {args : List Value} {w : World} {e : TypeId} {enc : α → List Value} {k : Nat} {l : List α} (h : nA true P f args w e enc k l) : nA dd P f args w e enc k l := mZ.mR h
section
variable {P : Program} {E : Nat → Value} {W : World} {d : Option Nat} {ty : TypeId} {pos : String} {af : Array Edge} {g : Option (Nat × Bool)}
 {F : Nat → Prop} {w : World} {μ : lQ} {L : List (Nat × Obj)}
theorem Pj {K : Value → World → Prop} {K' : Value → List (Nat × Obj) → World → Prop} {f : FuncId} {fv : Operand} {ax : Array Operand} {ats : Array TypeId} {caps : Array Value} {args : List Value} (L0 L2 : List (Nat × Obj)) (a : ST dd F w W μ L) (b : L.Perm (L0 ++ L2)) (l : kV E fv = .func (.func f) #[] caps) (he : ∀ args w, (callFunc f args).run P w = .ok (.enter f args) w) (ha : ax.map (kV E) ++ caps = args.toArray) (k : mZ dd P f args W L0 K') (h : ∀ W' v μ' L1, ST dd F w W' μ' (L1 ++ L2) → lu μ μ' → Lo F w μ μ' → K' v L1 W' → K v W') : ov P E ⟨d, .call ⟨.value fv, ax, ats⟩, ty, pos, af, g⟩ W K :=
 FE l he ha (dZ k (fun _ W' ⟨v, L1, h1, i, j⟩ => ⟨v, h1, h W' v _ L1 ((a.perm b).back i) ((a.perm b).IJ W' L1) ((a.perm b).KE W' L1) j⟩))
theorem ML {K : Value → World → Prop} {α : Type} {e : TypeId} {enc : α → List Value} {k : Nat} {l : List α} {f : FuncId} {fv : Operand} {ax : Array Operand} {ats : Array TypeId} {caps : Array Value} {args : List Value} (X Y : List (Nat × Obj)) (a : ST dd F w W μ (X ++ Y)) (n : kV E fv = .func (.func f) #[] caps) (he : ∀ args w, (callFunc f args).run P w = .ok (.enter f args) w) (ha : ax.map (kV E) ++ caps = args.toArray) (m : nA dd P f args W e enc k l) (h : ∀ W' v μ' R, ST dd F w W' μ' (X ++ (R ++ Y)) → lu μ μ' → Lo F w μ μ' → lA e enc k v l R → K v W') : ov P E ⟨d, .call ⟨.value fv, ax, ats⟩, ty, pos, af, g⟩ W K :=
 Pj [] (X ++ Y) a (.refl _) n he ha m (fun W' v μ' L1 h1 b j i => h W' v μ' L1 (h1.perm (by rw [← aM, ← aM]; exact List.perm_append_comm.append_right Y)) b j i)
end
theorem ST.oR {w W : World} {μ : lQ} {L R : List (Nat × Obj)} (h : ST dd lU w W μ L) (a : ∀ p, p ∈ R → p ∈ L) (g : (R.map (·.1)).Nodup) : vj dd [] R w W :=
 vj.Jx h.ex (fun b o d => ⟨(h.box b o (a _ d)).1, by
  rcases (h.box b o (a _ d)).2.2 with h | h
  ·exact h
  ·exact h.elim⟩) g
theorem oq {P : Program} {E : Nat → Value} {W : World} {d : Option Nat} {ty : TypeId} {pos : String} {af : Array Edge} {g : Option (Nat × Bool)} {α : Type} {e' : TypeId} {enc : α → List Value} {k : Nat} {v : Value} {l : List α} {R : List (Nat × Obj)} {x : Operand} {t e : TypeId} (a : P.underlying t = some (.slice e)) (b : kV E x = v) (h : lA e' enc k v l R) : nc P E ⟨d, .call ⟨.builtin .len, #[x], #[t]⟩, ty, pos, af, g⟩ W (.int .i64 l.length) W := by
 obtain ⟨A, c, rfl⟩ := h.form
 exact BK a b
section
variable {α : Type} {e : TypeId} {enc : α → List Value} {k : Nat} {v : Value} {l : List α} {R : List (Nat × Obj)}
theorem lA.nd (h : lA e enc k v l R) : (R.map (·.1)).Nodup := by
 rcases h with ⟨rfl, rfl, rfl⟩ | ⟨g, cap, a, rfl, rfl, _⟩ <;> simp
end
end Go.Proofs.YtklbhegeiijbjaaGreat
namespace Go.Proofs.YtklbhegeiijbjaaGreat
open Go.RowKit
variable {dd : Bool}
def BL (R : List (Nat × Obj)) (k : Nat) (p : Value) (i : Nat) : Prop := ∃ g o, R = [(g, o)] ∧ p = .pointer (some ⟨g, i * k, none⟩)
section
variable {P : Program} {E : Nat → Value} {W : World} {d : Option Nat} {ty : TypeId} {pos : String} {af : Array Edge} {g : Option (Nat × Bool)}
 {F : Nat → Prop} {w : World} {μ : lQ} {L : List (Nat × Obj)} {α : Type} {e' : TypeId} {enc : α → List Value} {k : Nat} {v : Value} {l : List α} {R : List (Nat × Obj)}
theorem pg {t e : TypeId} {x b : Operand} {z : IntKind} {i : Int} {x0 : α} (u : P.underlying t = some (.slice e)) (he : ∀ w, (sizeOf e).run P w = .ok k w) (y : kV E x = v) (r : kV E b = .int z i) (h : lA e' enc k v l R) (n : 0 ≤ i) (s : l[i.toNat]? = some x0) :
  ∃ p, BL R k p i.toNat ∧ ∀ W, nc P E ⟨d, .indexAddr t x b, ty, pos, af, g⟩ W p W := by
 have a : i.toNat < l.length := (bM.1 s).1
 rcases h with ⟨rfl, rfl, rfl⟩ | ⟨m, cap, j, rfl, rfl, h1, A, D, F⟩
 ·simp at a
 refine ⟨.pointer (some ⟨m, i.toNat * k, none⟩), ⟨_, _, rfl, rfl⟩, fun W => ?_⟩
 show (do pure (.value (← Instr.indexAt t (kV E x) (kV E b))) : Sem Next).run P W = _
 rw [y, r]
 have q : 0 ≤ i ∧ i < (l.length : Int) := ⟨n, by omega⟩
 simp [Instr.indexAt, asIntOf, aV u, he W, q, dG]
theorem BP (h : lA e' enc k v l R) (hk : ∀ x, (enc x).length = k) {p : Value} {i : Nat} (hp : BL R k p i) {x0 : α} (n : l[i]? = some x0) :
  ∃ g a cap, R = [(g, .cells a e' (0, 0))] ∧ v = .slice (some ⟨g, 0, none⟩) l.length cap ∧ l.length ≤ cap ∧ cap ≤ maxLen ∧ a.size = cap * k ∧ a.toList.take (l.length * k) = (l.map enc).flatten ∧ p = .pointer (some ⟨g, i * k, none⟩) ∧ ∀ j y, (enc x0)[j]? = some y → a[i * k + j]? = some y := by
 have d : i < l.length := (bM.1 n).1
 rcases h with ⟨rfl, rfl, rfl⟩ | ⟨r, cap, a, rfl, rfl, h1, s, t, m⟩
 ·simp at d
 obtain ⟨g2, o, q, rfl⟩ := hp
 cases q
 refine ⟨r, a, cap, rfl, rfl, h1, s, t, m, rfl, fun j y u => ?_⟩
 have := xN hk l i x0 n j y u
 rw [← m] at this
 have b : i * k + j < l.length * k := by
  have := (bM.1 this).1
  simp at this; omega
 rw [eE b] at this
 simpa using this
theorem uc {A : List (Nat × Obj)} (hH : oD μ A W) (d : ∀ q, q ∈ R → q ∈ A) (h : lA e' enc k v l R) (hk : ∀ x, (enc x).length = k) {p : Value} {i : Nat} (hp : BL R k p i) {x0 : α} (m : l[i]? = some x0) {t : TypeId} (g : ∀ w, (isAgg t).run P w = .ok true w) (j : ∀ w, (sizeOf t).run P w = .ok k w) : (Instr.loadAt t p).run P W = .ok (.agg (enc x0).toArray) W := by
 obtain ⟨n, a, cap, rfl, rfl, _, _, _, _, rfl, b⟩ := BP h hk hp m
 exact Dh g (enc x0) (by rw [hk]; exact j) (hH.2 _ _ (d _ (cM.2 rfl))) b
theorem DN {A : List (Nat × Obj)} (hH : oD μ A W) (d : ∀ q, q ∈ R → q ∈ A) (h : lA e' enc k v l R) (hk : ∀ x, (enc x).length = k) {p : Value} {i : Nat} (hp : BL R k p i) {x0 : α} (j : l[i]? = some x0) {t : TypeId} {y : Value} (m : enc x0 = [y]) (g : ∀ w, (isAgg t).run P w = .ok false w) : (Instr.loadAt t p).run P W = .ok y W := by
 obtain ⟨n, a, cap, rfl, rfl, _, _, _, _, rfl, b⟩ := BP h hk hp j
 exact Da g (hH.2 _ _ (d _ (cM.2 rfl))) (b 0 y (by rw [m]; rfl))
theorem Gl (hk : ∀ x, (enc x).length = k) : ∀ (l : List α) (i : Nat) (y : α), i < l.length → ((l.set i y).map enc).flatten = (l.map enc).flatten.take (i * k) ++ enc y ++ (l.map enc).flatten.drop (i * k + k)
 | [], i, y, h => by simp at h
 | z :: l, 0, y, h => by
  simp [hk]
 | z :: l, i + 1, y, h => by
  have := Gl hk l i y (by simpa using h)
  simp only [List.set_cons_succ, bP, bR, this]
  have h1 : (i + 1) * k = (enc z).length + i * k := by rw [hk, cP]; omega
  rw [h1, jI, fI, List.drop_length_add_append]
  simp
theorem MP {K : Value → World → Prop} (X : List (Nat × Obj)) {Y : List (Nat × Obj)} {t : TypeId} {x y : Operand} {p u : Value} {i : Nat} {x0 x1 : α} (j : ST dd F w W μ (X ++ (R ++ Y))) (h : lA e' enc k v l R) (hk : ∀ x, (enc x).length = k) (h1 : ∀ x, ∀ u ∈ enc x, u.oneCell' = true) (T : kV E x = p) (U : kV E y = u) (hu : u.cells = (enc x1).toArray) (hp : BL R k p i) (D : l[i]? = some x0) (O : ∀ w, (sizeOf t).run P w = .ok k w) (M : ∀ W' R', ST dd F w W' μ (X ++ (R' ++ Y)) → lA e' enc k v (l.set i x1) R' → K undef W') : ov P E ⟨d, .store t x y, ty, pos, af, g⟩ W K := by
 have s : i < l.length := (bM.1 D).1
 obtain ⟨n, a, cap, rfl, rfl, A, J, r, L, rfl, Z⟩ := BP h hk hp D
 have hle : i * k + k ≤ cap * k := by
  have : (i + 1) * k ≤ cap * k := cI _ (by omega)
  rwa [cP, ku] at this
 have m : i * k + k ≤ l.length * k := by
  have : (i + 1) * k ≤ l.length * k := cI _ (by omega)
  rwa [cP, ku] at this
 have b : u.cells.size = k := by rw [hu]; simp [hk]
 have Q := (j.box n (.cells a e' (0, 0)) (by simp)).1
 have hlen : l.length * k ≤ cap * k := cI _ A
 refine .inr (.inl ⟨W.setRow n (a.toList.take (i * k) ++ (enc x1) ++ a.toList.drop (i * k + k)).toArray, ?_, M _ [(n, .cells (a.toList.take (i * k) ++ (enc x1) ++ a.toList.drop (i * k + k)).toArray e' (0, 0))] (j.store _) (.inr ⟨n, cap, _, by simp, rfl, by simpa using A, J, ?_, ?_⟩)⟩)
 ·show (do Instr.storeAt t (kV E x) (kV E y); pure .skip : Sem Next).run P W = _
  rw [T, U]
  have := Dj P (off := i * k) u (by rw [b]; exact O) (by rw [hu]; simpa using h1 x1) Q (by rw [b, r]; exact hle)
  simp only [cK, this, bQ, dH, b]
  rw [hu]
 ·show ((a.toList.take (i * k) ++ (enc x1) ++ a.toList.drop (i * k + k)).toArray).size = _
  have q : a.toList.length = cap * k := by simpa using r
  rw [dV, aF, aF, cQ, eP, hk, q, dE (by omega)]; omega
 ·rw [jA, Gl hk l i x1 s, ← L]
  have G : (a.toList.take (l.length * k)).take (i * k) = a.toList.take (i * k) := by rw [iG]; congr 1; omega
  have I : (a.toList.take (l.length * k)).drop (i * k + k) = (a.toList.drop (i * k + k)).take (l.length * k - (i * k + k)) := by rw [jf]
  rw [G, I]
  show List.take (l.length * k) (a.toList.take (i * k) ++ enc x1 ++ a.toList.drop (i * k + k)) = _
  have q : a.toList.length = cap * k := by simpa using r
  have z : (a.toList.take (i * k) ++ enc x1).length = i * k + k := by rw [aF, cQ, hk, q, dE (by omega)]
  rw [fV, dN (by rw [z]; exact m), z]
theorem Cy (hk : ∀ x, (enc x).length = k) : ∀ (l : List α) (i : Nat), i ≤ l.length → ((l.take i).map enc).flatten = (l.map enc).flatten.take (i * k)
 | [], i, h => by simp
 | z :: l, 0, h => by simp
 | z :: l, i + 1, h => by
  have := Cy hk l i (by simpa using h)
  simp only [List.take_succ_cons, bP, bR, this]
  rw [show (i + 1) * k = (enc z).length + i * k by rw [hk, cP]; omega, jI]
theorem EQ {t e : TypeId} {x ih : Operand} {F : IntKind} {i : Int} (n : P.underlying t = some (.slice e)) (he : ∀ w, (sizeOf e).run P w = .ok k w) (p : kV E x = v) (m : kV E ih = .int F i) (h : lA e' enc k v l R) (hk : ∀ x, (enc x).length = k) (s : 0 ≤ i) (D : i ≤ l.length) :
  ∃ q, lA e' enc k q (l.take i.toNat) R ∧ ∀ W, nc P E ⟨d, .slice t x none (some ih) none, ty, pos, af, g⟩ W q W := by
 have a : i.toNat ≤ l.length := by omega
 rcases h with ⟨rfl, rfl, rfl⟩ | ⟨j, cap, b, rfl, rfl, h1, u, y, z⟩
 ·have : i = 0 := by simp at D; omega
  subst this
  refine ⟨.slice none 0 0, .inl ⟨rfl, by simp, rfl⟩, fun W => ?_⟩
  show (do pure (.value (← Instr.sliceAt t (kV E x) none (some (kV E ih)) none)) : Sem Next).run P W = _
  rw [p, m]
  simp [Instr.sliceAt, Instr.slice, Instr.sliceBounds, Instr.sliceBound, asIntOf, aV n, he W]
 ·refine ⟨.slice (some ⟨j, 0, none⟩) (l.take i.toNat).length cap, .inr ⟨j, cap, b, rfl, rfl, by simp; omega, u, y, ?_⟩, fun W => ?_⟩
  ·have r : (l.take i.toNat).length = i.toNat := by rw [cQ]; omega
   have hle : i.toNat * k ≤ l.length * k := cI _ a
   rw [r, Cy hk l i.toNat a, ← z, iG, dE hle]
  ·show (do pure (.value (← Instr.sliceAt t (kV E x) none (some (kV E ih)) none)) : Sem Next).run P W = _
   rw [p, m]
   have A : 0 ≤ i ∧ i ≤ (cap : Int) := ⟨s, by omega⟩
   simp [Instr.sliceAt, Instr.slice, Instr.sliceBounds, Instr.sliceBound, asIntOf, aV n, he W, A, dG]
   omega
theorem Dc {u : rA α} {t e : TypeId} {x r : Operand} {Z : IntKind} {i : Int} (U : P.underlying t = some (.slice e)) (he : ∀ w, (sizeOf e).run P w = .ok k w) (n : kV E x = v) (M : kV E r = .int Z i) (h : Sl u k μ v l) (z : 0 ≤ i) (O : i ≤ l.length) :
  ∃ s, (Sl u k μ s (l.drop i.toNat) ∧ ∀ B, Fr B v → Fr B s) ∧ ∀ W, nc P E ⟨d, .slice t x (some r) none none, ty, pos, af, g⟩ W s W := by
 obtain ⟨A, c, rfl, h2, h3, D⟩ := h
 have Q : i.toNat ≤ l.length := by omega
 refine ⟨.slice (if c = i.toNat then A else A.map (·.add (i.toNat * k))) (l.drop i.toNat).length (c - i.toNat), ⟨⟨_, _, rfl, by simp; omega, by omega, fun hp => ?_⟩, fun B L b m => ?_⟩, fun W => ?_⟩
 ·have R : i.toNat < l.length := by simp at hp; omega
  obtain ⟨b, off, cs, T, fr, rfl, F, G⟩ := D (by omega)
  refine ⟨b, off + i.toNat * k, cs, T, fr, ?_, F, fun j x n => ?_⟩
  ·rw [bB (by omega)]; simp [dG]
  ·rw [dY] at n
   obtain ⟨ys, I, J, p⟩ := G _ x n
   refine ⟨ys, I, J, fun q y Y => ?_⟩
   have := p q y Y
   rw [cP] at this
   rw [show off + i.toNat * k + j * k + q = off + (i.toNat * k + j * k) + q by omega]
   exact this
 ·refine L b ?_
  cases A with
  | none => simp [Value.ownBlock] at m
  | some a =>
   split at m
   ·exact m
   ·obtain ⟨b', o', s'⟩ := a
    cases s' <;> simp [Value.ownBlock, Addr.add] at m ⊢ <;> split at m <;> exact m
 ·show (do pure (.value (← Instr.sliceAt t (kV E x) (some (kV E r)) none none)) : Sem Next).run P W = _
  rw [n, M]
  have m : 0 ≤ i ∧ i ≤ (l.length : Int) := ⟨z, O⟩
  simp [Instr.sliceAt, Instr.slice, Instr.sliceBounds, Instr.sliceBound, asIntOf, aV U, he W, m]
end
end Go.Proofs.YtklbhegeiijbjaaGreat
namespace Go.Proofs.YtklbhegeiijbjaaGreat
open Go.RowKit
variable {dd : Bool}
section
variable {α : Type} {e : TypeId} {enc : α → List Value} {k : Nat} {v : Value} {l : List α} {R : List (Nat × Obj)} {μ : lQ}
theorem lA.one (h : lA e enc k v l R) : v.oneCell' = true := by obtain ⟨A, c, rfl⟩ := h.form; rfl
theorem Sl.one {a : rA α} (h : Sl a k μ v l) : v.oneCell' = true := by obtain ⟨A, c, rfl⟩ := h.form; rfl
theorem Sl.isNil {d : rA α} {n c : Nat} (h : Sl d k μ (.slice none n c) l) : l = [] := by
 obtain ⟨A, j, h1, m, p, g⟩ := h
 cases h1
 rcases fG l.length with a | a
 ·exact eZ.1 a
 ·obtain ⟨b, off, cs, T, fr, i, _⟩ := g a
  cases i
theorem lA.isNil {n c : Nat} (h : lA e enc k (.slice none n c) l R) : l = [] := by
 rcases h with ⟨h1, rfl, rfl⟩ | ⟨g, cap, a, h1, _⟩
 ·rfl
 ·cases h1
theorem ST.Td {w W : World} {μ : lQ} {L1 L2 : List (Nat × Obj)} (h : ST dd lU w W μ (L1 ++ L2)) : vj dd [] L1 w W :=
 vj.Jx h.ex (fun b o a => ⟨(h.box b o (cO _ a)).1, by
  rcases (h.box b o (cO _ a)).2.2 with h | h
  ·exact h
  ·exact h.elim⟩) (by have := h.nd; rw [cL] at this; exact (cE.1 this).1)
theorem ST.Ti {w W : World} {μ : lQ} {L0 L1 L2 : List (Nat × Obj)} (h : ST dd (keys L0) w W μ (L1 ++ L2)) : vj dd L0 L1 w W :=
 ⟨⟨h.os, h.tape, h.output, h.drawn, h.size, h.nI⟩, fun b o a => ⟨(h.box b o (cO _ a)).1, (h.box b o (cO _ a)).2.2⟩, by have := h.nd; rw [cL] at this; exact (cE.1 this).1⟩
end
end Go.Proofs.YtklbhegeiijbjaaGreat
namespace Go.Proofs.YtklbhegeiijbjaaGreat
open Go.RowKit
variable {dd : Bool}
def mJ {κ β : Type} (beq : κ → κ → Bool) (l : List (κ × β)) (k : κ) : Option β := (l.find? (fun p => beq k p.1)).map (·.2)
def po {κ β : Type} (beq : κ → κ → Bool) (l : List (κ × β)) (k : κ) (v : β) : List (κ × β) :=
 match l.findIdx? (fun p => beq k p.1) with
 | some i => l.set i (k, v)
 | none => l ++ [(k, v)]
structure vP {κ β : Type} (kenc : κ → Value) (vf : β → Value) (l : List (κ × β)) (es : Array MapEntry) (clock : Nat) : Prop where
 FM : es.toList.map (fun e => (e.key, e.val)) = l.map (fun p => (kenc p.1, vf p.2))
 born : es.toList.Pairwise (fun a b => a.born < b.born)
 lt : ∀ e ∈ es.toList, e.born < clock
def nh {κ β : Type} (kenc : κ → Value) (vf : β → Value) (v : Value) (l : List (κ × β)) (R : List (Nat × Obj)) : Prop :=
 ∃ m es clock, v = .map (some m) ∧ R = [(m, .map es clock)] ∧ vP kenc vf l es clock
def xt {κ β : Type} (kenc : κ → Value) (vf : β → Value) (μ : lQ) (v : Value) (l : List (κ × β)) : Prop :=
 (v = .map none ∧ l = []) ∨ ∃ m es clock, v = .map (some m) ∧ μ m = some (.map es clock) ∧ vP kenc vf l es clock
theorem xt.mono {κ β : Type} {kenc : κ → Value} {vf : β → Value} {μ μ' : lQ} {v : Value} {l : List (κ × β)} (h : xt kenc vf μ v l) (d : lu μ μ') : xt kenc vf μ' v l := by
 rcases h with h | ⟨m, es, clock, h1, a, b⟩
 ·exact .inl h
 ·exact .inr ⟨m, es, clock, h1, d _ _ a, b⟩
theorem nh.at {κ β : Type} {kenc : κ → Value} {vf : β → Value} {μ : lQ} {v : Value} {l : List (κ × β)} {R : List (Nat × Obj)} (h : nh kenc vf v l R) (d : ∀ b o, (b, o) ∈ R → μ b = some o) : xt kenc vf μ v l := by
 obtain ⟨m, es, clock, rfl, rfl, a⟩ := h
 exact .inr ⟨m, es, clock, rfl, d _ _ (cM.2 rfl), a⟩
structure qz {κ : Type} (P : Program) (kt : TypeId) (kenc : κ → Value) (beq : κ → κ → Bool) : Prop where
 check : ∀ b k W, (Instr.checkKey b 10000 kt (kenc k)).run P W = .ok () W
 find : ∀ (k : κ) (l : List κ) (es : List MapEntry), es.map (·.key) = l.map kenc → ∀ W, (Instr.findKey kt (kenc k) es).run P W = .ok ((l.findIdx? (fun x => beq k x)).bind fun i => (es[i]?).map fun e => (i, e.val)) W
 eq : ∀ k x, beq k x = true → kenc x = kenc k
 bits : ∀ k, Instr.sameBits 10000 (kenc k) (kenc k) = true
section
variable {P : Program} {W : World} {κ : Type} {kt : TypeId} {kenc : κ → Value} {beq : κ → κ → Bool}
theorem Dq (a : ∀ x y W, (Op.equal kt (kenc x) (kenc y)).run P W = .ok (beq x y) W) (k : κ) : ∀ (l : List κ) (es : List MapEntry) (i : Nat), es.map (·.key) = l.map kenc →
  (Instr.findAsking kt (kenc k) es i).run P W = .ok ((l.findIdx? (fun x => beq k x)).bind fun j => (es[j]?).map fun e => (i + j, e.val)) W
 | [], [], i, h => by simp [Instr.findAsking]
 | [], _ :: _, i, h => by simp at h
 | _ :: _, [], i, h => by simp at h
 | x :: l, e :: es, i, h => by
  simp only [bP, bE] at h
  obtain ⟨h1, b⟩ := h
  simp only [Instr.findAsking, cK, h1, a, bQ, fY]
  cases d : beq k x with
  | true => simp
  | false =>
   simp only [aB, aG]
   rw [Dq a k l es (i + 1) b]
   cases l.findIdx? (fun x => beq k x) with
   | none => rfl
   | some j => simp [fI, Nat.add_comm 1 j]
theorem Ld {kind : TypeDesc} (hk : ∀ a b, Instr.sameNow kind (.agg a) b = none) (a : Array Value) : ∀ (es : List MapEntry) (i : Nat), Instr.findNow kind (.agg a) es i = if es = [] then some none else none
 | [], i => by simp [Instr.findNow]
 | e :: es, i => by simp [Instr.findNow, hk]
theorem qz.struct {enc : κ → List Value} {fs : Array Field} (p : P.underlying kt = some (.struct fs)) (n : ∀ d x y W, (Op.equalIn (d + 10) kt (.agg (enc x).toArray) (.agg (enc y).toArray)).run P W = .ok (beq x y) W) (m : ∀ b k W, (Instr.checkKey b 10000 kt (.agg (enc k).toArray)).run P W = .ok () W) (he : ∀ k x, beq k x = true → x = k) (j : ∀ k, Instr.sameBits 10000 (.agg (enc k).toArray) (.agg (enc k).toArray) = true) : qz P kt (fun x => .agg (enc x).toArray) beq where
 check := m
 find := fun k l es h W => by
  have g : ∀ x y W, (Op.equal kt (.agg (enc x).toArray) (.agg (enc y).toArray)).run P W = .ok (beq x y) W := fun x y W => n 9990 x y W
  simp only [Instr.findKey, cK, aV p, bQ]
  rw [Ld (fun a b => by cases b <;> rfl)]
  by_cases i : es = []
  ·subst i
   have : l = [] := by simpa using h.symm
   subst this
   simp
  ·rw [bB i]
   dsimp only
   rw [show Instr.findAsking kt (.agg (enc k).toArray) es = Instr.findAsking kt (.agg (enc k).toArray) es 0 from rfl, Dq g k l es 0 h]
   simp
 eq := fun k x h => by rw [he k x h]
 bits := j
theorem np {a b : ByteArray} : mx a b = true ↔ a = b := by
 unfold mx
 rw [gN, gN]
 constructor
 ·intro h
  have h1 : a.data.toList = b.data.toList := by simpa using h
  exact jY (Array.toList_inj.1 h1)
 ·rintro rfl
  simp
theorem EH (a b : ByteArray) : (a == b) = mx a b := by
 rw [bT, np]
 constructor
 ·intro h
  have h1 : (a.data == b.data) = true := h
  exact jY (by simpa using h1)
 ·rintro rfl
  show (a.data == a.data) = true
  simp
theorem Dv (k : ByteArray) : ∀ (l : List ByteArray) (es : List MapEntry) (i : Nat), es.map (·.key) = l.map Value.string →
  Instr.findNow .string (.string k) es i = some ((l.findIdx? (fun x => mx k x)).bind fun j => (es[j]?).map fun e => (i + j, e.val))
 | [], [], i, h => by simp [Instr.findNow]
 | [], _ :: _, i, h => by simp at h
 | _ :: _, [], i, h => by simp at h
 | x :: l, e :: es, i, h => by
  simp only [bP, bE] at h
  obtain ⟨h1, a⟩ := h
  simp only [Instr.findNow, h1, Instr.sameNow, EH, fY]
  cases b : mx k x with
  | true => simp
  | false =>
   simp only [aB, aG]
   rw [Dv k l es (i + 1) a]
   cases l.findIdx? (fun x => mx k x) with
   | none => rfl
   | some j => simp [fI, Nat.add_comm 1 j]
theorem zJ (a : P.underlying kt = some .string) (n : Nat) (b : Bool) (k : ByteArray) (W : World) : (Instr.checkKey b (n + 1) kt (.string k)).run P W = .ok () W := by
 simp [Instr.checkKey, aV a]
theorem qz.string (a : P.underlying kt = some .string) : qz P kt Value.string mx where
 check := fun b k W => zJ a 9999 b k W
 find := fun k l es h W => by
  simp only [Instr.findKey, cK, aV a, bQ]
  have := Dv k l es 0 h
  rw [this]
  simp
 eq := fun k x h => by rw [np.1 h]
 bits := fun k => by simp only [Instr.sameBits]; rw [EH]; exact np.2 rfl
variable {β : Type} {vf : β → Value} {E : Nat → Value} {d : Option Nat} {ty : TypeId} {pos : String} {af : Array Edge} {g : Option (Nat × Bool)} {F : Nat → Prop} {w : World} {μ : lQ} {L : List (Nat × Obj)}
theorem vP.keys {l : List (κ × β)} {es : Array MapEntry} {clock : Nat} (h : vP kenc vf l es clock) : es.toList.map (·.key) = (l.map (·.1)).map kenc := by
 have := bL (List.map Prod.fst) h.FM
 simpa [iy] using this
theorem vP.length {l : List (κ × β)} {es : Array MapEntry} {clock : Nat} (h : vP kenc vf l es clock) : es.size = l.length := by
 have := bL List.length h.FM
 simpa using this
theorem vP.get {l : List (κ × β)} {es : Array MapEntry} {clock : Nat} (h : vP kenc vf l es clock) (k : κ) :
  (((l.map (·.1)).findIdx? (fun x => beq k x)).bind fun i => (es.toList[i]?).map fun e => (i, e.val)) = (l.findIdx? (fun p => beq k p.1)).bind fun i => (l[i]?).map fun p => (i, vf p.2) := by
 rw [jg]
 show ((l.findIdx? (fun p => beq k p.1)).bind _) = _
 congr 1
 funext i
 have := bL (fun q => q[i]?) h.FM
 simp only [gG] at this
 cases h1 : es.toList[i]? with
 | none => rw [h1] at this; cases a : l[i]? with
  | none => rfl
  | some p => rw [a] at this; cases this
 | some e => rw [h1] at this; cases a : l[i]? with
  | none => rw [a] at this; cases this
  | some p => rw [a] at this; simp at this; simp [this.2]
theorem za (l : List (κ × β)) (k : κ) : mJ beq l k = (l.findIdx? (fun p => beq k p.1)).bind fun i => (l[i]?).map (·.2) := by
 induction l with
 | nil => rfl
 | cons p l ih =>
  simp only [mJ, gU, fY] at ih ⊢
  cases beq k p.1 with
  | true => rfl
  | false =>
   simp only [aB, aG]
   rw [ih]
   cases l.findIdx? (fun p => beq k p.1) <;> simp
theorem JR {t e : TypeId} {m x : Operand} {s z : Value} {l : List (κ × β)} {k : κ} (K : qz P kt kenc beq) (q : P.underlying t = some (.map kt e)) (b : ∀ w, (zeroValue e).run P w = .ok z w) (hm : kV E m = s) (A : kV E x = kenc k) (v : xt kenc vf (hp W) s l) :
  nc P E ⟨d, .lookup t m x false, ty, pos, af, g⟩ W (((mJ beq l k).map vf).getD z) W := by
 show (do pure (.value (← Instr.lookup t (kV E m) (kV E x) false)) : Sem Next).run P W = _
 rw [hm, A]
 rcases v with ⟨rfl, rfl⟩ | ⟨r, es, clock, rfl, y, h⟩
 ·have := K.find k [] [] rfl W
  simp [Instr.lookup, aV q, K.check, this, b W, mJ]
 ·have a : W.heap[r]? = some (.map es clock) := y
  have u : (getObj r : Sem Obj).run P W = .ok (.map es clock) W := by simp [getObj, Sem.run, a]
  have j := K.find k _ _ h.keys W
  rw [h.get k] at j
  simp only [Instr.lookup, cK, aV q, bQ, u, dH, K.check, j, za]
  cases D : l.findIdx? (fun p => beq k p.1) with
  | none => simp [b W]
  | some i =>
   cases n : l[i]? with
   | none => simp [n, b W]
   | some p => simp [n]
theorem tz {l : List (κ × β)} {k : κ} {i : Nat} (h : l.findIdx? (fun p => beq k p.1) = some i) : ∃ p, l[i]? = some p ∧ beq k p.1 = true := by
 rw [fC] at h
 obtain ⟨h1, a, _⟩ := h
 exact ⟨l[i], dB h1, a⟩
theorem vP.put {l : List (κ × β)} {es : Array MapEntry} {clock : Nat} (h : vP kenc vf l es clock) (k : κ) (v : β) :
  match l.findIdx? (fun p => beq k p.1) with
  | some i => vP kenc vf (l.set i (k, v)) (es.modify i fun e => { e with key := kenc k, val := vf v }) clock
  | none => vP kenc vf (l ++ [(k, v)]) (es.push { key := kenc k, val := vf v, born := clock }) (clock + 1) := by
 cases s : l.findIdx? (fun p => beq k p.1) with
 | none =>
  refine ⟨?_, ?_, ?_⟩
  ·simp [h.FM]
  ·simp only [Array.toList_push, cY]
   exact ⟨h.born, by simp, fun a ha b r => by simp at r; subst r; exact h.lt a ha⟩
  ·intro e he
   simp at he
   rcases he with he | rfl
   ·exact Nat.lt_succ_of_lt (h.lt e (by simpa using he))
   ·exact bF _
 | some i =>
  obtain ⟨p, hp, _⟩ := tz s
  have w : i < l.length := (bM.1 hp).1
  have d : (es.modify i fun e => { e with key := kenc k, val := vf v }).toList.map (·.born) = es.toList.map (·.born) := by
   apply fM
   intro j
   simp only [gG, dT, eU]
   split
   ·cases es[j]? <;> simp
   ·rfl
  refine ⟨?_, ?_, ?_⟩
  ·apply fM
   intro j
   have m := bL (fun q => q[j]?) h.FM
   simp only [gG, dT] at m
   simp only [gG, dT, eU, gF]
   by_cases g : i = j
   ·subst g
    simp only [aN]
    rw [aX w]
    cases t : es[i]? with
    | none => rw [t, hp] at m; cases m
    | some e => rfl
   ·rw [bB g, bB g]; exact m
  ·have := h.born
   rw [← iz (f := fun e : MapEntry => e.born) (R := (· < ·))] at this ⊢
   rw [d]; exact this
  ·intro e he
   have : e.born ∈ es.toList.map (·.born) := by rw [← d]; exact bN.2 ⟨e, he, rfl⟩
   obtain ⟨e', n, u⟩ := bN.1 this
   rw [← u]; exact h.lt e' n
theorem zx {W : World} {r : Nat} {es : Array MapEntry} {c : Nat} (b : W.heap[r]? = some (.map es c)) (a : Obj) : (setObj r a).run P W = .ok () (ChangeMaps.setBlock W r a) := by
 simp [setObj, Sem.run, b, ChangeMaps.setBlock]
theorem ST.setBlock {A B : List (Nat × Obj)} {b : Nat} {o : Obj} (h : ST dd F w W μ (A ++ (b, o) :: B)) (d : Obj) : ST dd F w (ChangeMaps.setBlock W b d) μ (A ++ (b, d) :: B) := by
 have g := (h.box b o (by simp)).1
 have a := ph g
 refine h.put ⟨rfl, rfl, rfl, aZ _, by simp [ChangeMaps.setBlock]⟩ (fun k hk => ?_) ?_
 ·simp only [ChangeMaps.setBlock]
  rw [Array.getElem?_setIfInBounds_ne (fun e => hk e.symm)]
 ·simp only [ChangeMaps.setBlock]
  rw [Array.getElem?_setIfInBounds_self_of_lt a]
theorem CX {I : Value → World → Prop} (X : List (Nat × Obj)) {Y R : List (Nat × Obj)} {t e : TypeId} {m x y : Operand} {G : Value} {l : List (κ × β)} {k : κ} {v : β} (K : qz P kt kenc beq) (M : P.underlying t = some (.map kt e)) (n : ST dd F w W μ (X ++ (R ++ Y))) (h : nh kenc vf G l R) (hm : kV E m = G) (Q : kV E x = kenc k) (T : kV E y = vf v) (L : ∀ W' R', ST dd F w W' μ (X ++ (R' ++ Y)) → nh kenc vf G (po beq l k v) R' → I undef W') : ov P E ⟨d, .mapUpdate t m x y, ty, pos, af, g⟩ W I := by
 obtain ⟨b, es, clock, rfl, rfl, z⟩ := h
 have A : W.heap[b]? = some (.map es clock) := (n.box b (.map es clock) (by simp)).1
 have J : (getObj b : Sem Obj).run P W = .ok (.map es clock) W := by simp [getObj, Sem.run, A]
 have r := K.find k _ _ z.keys W
 rw [z.get k] at r
 have a := z.put (beq := beq) k v
 have j : ∀ W', (Instr.mapUpdate t (.map (some b)) (kenc k) (vf v)).run P W = .ok () W' → (execOp (kV E) ⟨d, .mapUpdate t m x y, ty, pos, af, g⟩).run P W = .ok .skip W' := by
  intro W' O
  show (do Instr.mapUpdate t (kV E m) (kV E x) (kV E y); pure .skip : Sem Next).run P W = _
  rw [hm, Q, T]
  simp [O]
 cases s : l.findIdx? (fun p => beq k p.1) with
 | none =>
  rw [s] at r a
  refine .inr (.inl ⟨ChangeMaps.setBlock W b (.map (es.push { key := kenc k, val := vf v, born := clock }) (clock + 1)), j _ ?_, L _ [(b, _)] (n.setBlock _) ⟨b, _, _, rfl, rfl, ?_⟩⟩)
  ·simp [Instr.mapUpdate, aV M, J, K.check, r, zx A]
  ·rw [po, s]; exact a
 | some i =>
  obtain ⟨p, hp, D⟩ := tz s
  rw [s] at r a
  simp only [aA, hp, fE] at r
  have u : ((es[i]?).map (·.key)).getD (kenc k) = kenc k := by
   have := bL (fun q => q[i]?) z.keys
   simp only [gG, hp, fE, dT] at this
   rw [this]
   simp [K.eq k p.1 D]
  refine .inr (.inl ⟨ChangeMaps.setBlock W b (.map (es.modify i fun e => { e with key := kenc k, val := vf v }) clock), j _ ?_, L _ [(b, _)] (n.setBlock _) ⟨b, _, _, rfl, rfl, ?_⟩⟩)
  ·simp only [Instr.mapUpdate, cK, aV M, J, K.check, r, bQ, u, Instr.keyThatStays, K.bits, aN, dH]
   exact zx A _
  ·rw [po, s]; exact a
theorem II {b : Value → World → Prop} {t : TypeId} (kenc : κ → Value) (vf : β → Value) (a : ST dd F w W μ L) (h : ∀ W' v R, ST dd F w W' μ (R ++ L) → nh kenc vf v [] R → b v W') : ov P E ⟨d, .makeMap t none, ty, pos, af, g⟩ W b :=
 .inl ⟨.map (some W.heap.size), W.alloc (.map #[] 0), by
   show (do pure (.value (← Instr.makeMap t none)) : Sem Next).run P W = _
   simp [Instr.makeMap, newObj, Sem.run], h _ _ [(W.heap.size, .map #[] 0)] (a.alloc _) ⟨_, _, _, rfl, rfl, ⟨rfl, by simp, by simp⟩⟩⟩
end
end Go.Proofs.YtklbhegeiijbjaaGreat
namespace Go.Proofs.YtklbhegeiijbjaaGreat
open Go.RowKit
variable {dd : Bool}
open Classical in
noncomputable def E8 {α β : Type} (l : List α) (f : List α → Option β) : Option β :=
 if h : ∃ r, ∀ o, o.Perm l → f o = some r then some h.choose else none
theorem GW {α β : Type} {l : List α} {f : List α → Option β} {r : β} (h : ∀ o, o.Perm l → f o = some r) : E8 l f = some r := by
 have a : ∃ r, ∀ o, o.Perm l → f o = some r := ⟨r, h⟩
 unfold E8
 rw [dif_pos a]
 have h1 := a.choose_spec l (.refl l)
 rw [h l (.refl l)] at h1
 exact h1.symm
end Go.Proofs.YtklbhegeiijbjaaGreat
namespace Go.Proofs.YtklbhegeiijbjaaGreat
open Go.RowKit
variable {dd : Bool}
def TK {α β : Type} (P : Program) (fv : Value) (μ : lQ) (a : α → List Value) (b : β → Value) (pm : α → Option β) : Prop :=
 ∃ f caps, fv = .func (.func f) #[] caps ∧ (∀ args w, (callFunc f args).run P w = .ok (.enter f args) w) ∧ ∀ W x r, lu μ (hp W) → pm x = some r → lE true P f (a x ++ caps.toList) W (b r)
def Bb {α β : Type} (P : Program) (fv : Value) (μ : lQ) (a : α → List Value) (b : β → Value) (pm : α → Option β) : Prop :=
 ∃ f first caps, fv = .func (.func f) first caps ∧ (∀ args w, (callFunc f args).run P w = .ok (.enter f args) w) ∧ ∀ W x r, lu μ (hp W) → pm x = some r → lE false P f (first.toList ++ (a x ++ caps.toList)) W (b r)
theorem Bb.form {α β : Type} {P : Program} {fv : Value} {μ : lQ} {d : α → List Value} {g : β → Value} {pm : α → Option β} (h : Bb P fv μ d g pm) : ∃ f a b, fv = .func f a b := let ⟨f, a, b, h, _⟩ := h; ⟨_, a, b, h⟩
section
variable {P : Program} {W : World} {E : Nat → Value} {d : Option Nat} {ty : TypeId} {pos : String} {af : Array Edge} {g : Option (Nat × Bool)} {F : Nat → Prop} {w : World} {μ μ0 : lQ} {L : List (Nat × Obj)}
theorem Bb.mono {α β : Type} {fv : Value} {a : α → List Value} {b : β → Value} {pm : α → Option β} (h : Bb P fv μ a b pm) (i : lu μ μ0) : Bb P fv μ0 a b pm := by
 obtain ⟨f, first, caps, h1, d, g⟩ := h
 exact ⟨f, first, caps, h1, d, fun W x r h => g W x r (i.trans h)⟩
theorem PD {α β : Type} {K : Value → World → Prop} {fv : Value} {b : α → List Value} {k : β → Value} {pm : α → Option β} {i : Operand} {ax : Array Operand} {ats : Array TypeId} (x : α) {r : β} (a : ST false F w W μ L) (q : Bb P fv μ0 b k pm) (t : lu μ0 μ) (s : kV E i = fv) (ha : ax.map (kV E) ++ (#[] : Array Value) = (b x).toArray) (hm : pm x = some r) (h : ∀ W', ST false F w W' μ L → K (k r) W') : ov P E ⟨d, .call ⟨.value i, ax, ats⟩, ty, pos, af, g⟩ W K := by
 obtain ⟨f, first, caps, rfl, l, m⟩ := q
 have j : ax.map (kV E) = (b x).toArray := by simpa using ha
 refine .inr (.inr ⟨f, (first.toList ++ (b x ++ caps.toList)).toArray, ?_, dZ (m W x r (t.trans a.kM) hm) (fun _ _ ⟨n, p⟩ => ⟨_, n, h _ (a.Jy p)⟩)⟩)
 show (do let d ← resolve (kV E) ⟨.value i, ax, ats⟩ ty; invoke d.target d.args : Sem Next).run P W = _
 simp only [resolve, s, Deferred.ofValue, cK, dH, bQ, invoke, j, l]
 congr 2
 simp
end
end Go.Proofs.YtklbhegeiijbjaaGreat
namespace Go.Proofs.YtklbhegeiijbjaaGreat
open Go.RowKit
variable {dd : Bool}
def Df (A : List (Nat × Obj)) : lQ := fun b => (A.find? (fun p => p.1 == b)).map (·.2)
theorem nn {A : List (Nat × Obj)} {W : World} (h : ∀ b o, (b, o) ∈ A → W.heap[b]? = some o) : ∀ b o, Df A b = some o → W.heap[b]? = some o := fun b o a => by
 unfold Df at a
 cases d : A.find? (fun p => p.1 == b) with
 | none => rw [d] at a; cases a
 | some p =>
  rw [d] at a
  cases a
  have h1 := List.mem_of_find?_eq_some d
  have g := List.find?_some d
  simp at g
  subst g
  exact h _ _ h1
theorem At.of {M : lQ} {b : Nat} {cs : Array Value} {T : TypeId} {fr : Nat × Nat} (h : M b = some (.cells cs T fr)) (ys : List Value) (d : cs.toList = ys) : At M (.pointer (some ⟨b, 0, none⟩)) ys :=
 ⟨b, 0, cs, T, fr, rfl, h, fun j y a => by subst d; simpa using a⟩
section
variable {F : Nat → Prop} {w W W' : World} {μ μ' : lQ} {L L0 L1 L2 : List (Nat × Obj)}
theorem ST.Mf (h : ST dd F w W μ L) (a : L.Perm (L0 ++ L2)) : ∀ b o, (b, o) ∈ L2 → vI W L0 b = some o := fun b o d => by
 have h1 := (h.perm a).at_ (eV _ d)
 unfold vI
 rw [bB (FG (h.perm a).nd d)]
 exact h1
theorem ST.held (h : ST dd F w W μ L) (a : L.Perm (L0 ++ L2)) : E7 L0 W := fun b o d => ((h.perm a).box b o (cO _ d)).1
theorem ST.RQ (h : ST dd F w W μ L) (a : L.Perm (L0 ++ L2)) : (L0.map (·.1)).Nodup := by
 have := (h.perm a).nd
 rw [cL] at this
 exact (cE.1 this).1
theorem ST.Sy (h : ST dd F w W μ L) (a : L.Perm (L0 ++ L2)) : lu μ (vI W L0) := (h.perm a).lX (fun _ hp => cO _ hp)
end
section
variable {P : Program} {E : Nat → Value} {W : World} {d : Option Nat} {ty : TypeId} {pos : String} {af : Array Edge} {g : Option (Nat × Bool)}
 {F : Nat → Prop} {w : World} {μ : lQ} {L : List (Nat × Obj)}
theorem QN {K : Value → World → Prop} {K' : Value → List (Nat × Obj) → World → Prop} {f : FuncId} {fv : Operand} {ax : Array Operand} {ats : Array TypeId} {caps : Array Value} {args : List Value} (L0 L2 : List (Nat × Obj)) (a : ST dd F w W μ L) (i : L.Perm (L0 ++ L2)) (n : kV E fv = .func (.func f) #[] caps) (he : ∀ args w, (callFunc f args).run P w = .ok (.enter f args) w) (ha : ax.map (kV E) ++ (#[] : Array Value) = args.toArray) (m : E7 L0 W → (L0.map (·.1)).Nodup → lu μ (vI W L0) → (∀ b o, (b, o) ∈ L2 → vI W L0 b = some o) → mZ dd P f (args ++ caps.toList) W L0 K') (h : ∀ W' v μ' L1, ST dd F w W' μ' (L1 ++ L2) → lu μ μ' → Lo F w μ μ' → (∀ b, W.heap.size ≤ b → ∀ o, vI W' L1 b = some o → μ' b = some o) → K' v L1 W' → K v W') : ov P E ⟨d, .call ⟨.value fv, ax, ats⟩, ty, pos, af, g⟩ W K := by
 have j : ax.map (kV E) = args.toArray := by simpa using ha
 refine FE (args := (args ++ caps.toList).toArray) n he (by rw [j]; simp) (dZ (m (a.held i) (a.RQ i) (a.Sy i) (a.Mf i)) (fun _ W' ⟨v, L1, h1, k, l⟩ => ⟨v, h1, h W' v _ L1 ((a.perm i).back k) ((a.perm i).IJ W' L1) ((a.perm i).KE W' L1) ?_ l⟩))
 intro b q o p
 unfold CB
 rw [bB (by omega)]
 exact p
theorem Sl.lift {α : Type} {enc : α → List Value} {k : Nat} {M μ' : lQ} {B : Nat} {v : Value} {l : List α} (h : Sl (Pl enc) k M v l) (p : Fr B v) (n : ∀ b, B ≤ b → ∀ o, M b = some o → μ' b = some o) : Sl (Pl enc) k μ' v l := by
 obtain ⟨A, c, h1, d, g, i⟩ := h
 refine ⟨A, c, h1, d, g, fun q => ?_⟩
 obtain ⟨b, off, cs, T, fr, a, j, m⟩ := i q
 exact ⟨b, off, cs, T, fr, a, n b (p b (by rw [h1, a]; rfl)) _ j, m⟩
theorem Gn {t : TypeId} (dd : Nat) {s u : Array TypeId} {b : Bool} (d : P.underlying t = some (.func s u b)) (f : Fn) (a c : Array Value) (W : World) : (Op.equalIn (dd + 1) t (.func f a c) .nilFunc).run P W = .ok false W := by
 simp [Op.equalIn, aV d]
end
def AM {κ β : Type} (beq : κ → κ → Bool) (l : List (κ × β)) (k : κ) (z : β) : β := (mJ beq l k).getD z
section
variable {P : Program} {W : World} {κ β : Type} {kt : TypeId} {kenc : κ → Value} {beq : κ → κ → Bool} {vf : β → Value} {E : Nat → Value} {d : Option Nat} {ty : TypeId} {pos : String} {af : Array Edge} {g : Option (Nat × Bool)} {F : Nat → Prop} {w : World} {μ : lQ} {L R : List (Nat × Obj)} {v : Value} {left : List (κ × β)}
theorem AQ {t e : TypeId} {m x : Operand} {a : Value} {l : List (κ × β)} {k : κ} {z : β} (K : qz P kt kenc beq) (i : P.underlying t = some (.map kt e)) (n : ∀ w, (zeroValue e).run P w = .ok (vf z) w) (hm : kV E m = a) (j : kV E x = kenc k) (b : xt kenc vf (hp W) a l) :
  nc P E ⟨d, .lookup t m x false, ty, pos, af, g⟩ W (vf (AM beq l k z)) W := by
 have := JR (d := d) (ty := ty) (pos := pos) (af := af) (g := g) K i n hm j b
 rw [AM]
 cases h : mJ beq l k with
 | none => rw [h] at this; exact this
 | some y => rw [h] at this; exact this
theorem nh.one {a : Value} {l : List (κ × β)} (h : nh kenc vf a l R) : a.oneCell' = true := by obtain ⟨m, es, clock, rfl, _⟩ := h; rfl
theorem nh.form {a : Value} {l : List (κ × β)} (h : nh kenc vf a l R) : ∃ m, a = .map (some m) := by obtain ⟨m, es, clock, rfl, _⟩ := h; exact ⟨m, rfl⟩
theorem nh.nd {a : Value} {l : List (κ × β)} (h : nh kenc vf a l R) : (R.map (·.1)).Nodup := by obtain ⟨m, es, clock, rfl, rfl, _⟩ := h; simp
end
def pk {α : Type} (l : List α) (i : Nat) (z : α) : List α := l.take i ++ List.replicate (l.length - i) z
theorem vm {α : Type} (l : List α) (i : Nat) (z : α) (h : i ≤ l.length) : (pk l i z).length = l.length := by simp [pk]; omega
theorem Gi {α : Type} (l : List α) (i : Nat) (z : α) (h : i ≤ l.length) : (pk l i z).take i = l.take i := by
 simp only [pk]
 rw [fV, dN (by simp; omega)]
 simp; omega
end Go.Proofs.YtklbhegeiijbjaaGreat
namespace Go.Proofs.YtklbhegeiijbjaaGreat
open Go.RowKit
theorem I5 {P : Program} {cs : Array Value} {b : Bool} {n : Nat} {W : World} : ∀ (l : List Field),
  (∀ f ∈ l, f.name ≠ "_" → ∃ v, (part f.type cs f.offset).run P W = .ok v W ∧ (Instr.checkKey b n f.type v).run P W = .ok () W) →
  ((forIn l PUnit.unit fun f (_ : PUnit) => do
   if f.name ≠ "_" then Instr.checkKey b n f.type (← part f.type cs f.offset)
   pure (ForInStep.yield PUnit.unit)) : Sem PUnit).run P W = .ok PUnit.unit W
 | [], _ => by simp
 | f :: l, h => by
  have ih := I5 l (fun f g => h f (gH _ g))
  simp only [List.forIn_cons, cK]
  by_cases a : f.name ≠ "_"
  ·obtain ⟨v, h1, d⟩ := h f (by simp) a
   simp only [aX a, cK, h1, bQ, d, dH]
   exact ih
  ·simp only [bB a, cK, dH, bQ]
   exact ih
theorem Hx {P : Program} {kt : TypeId} {fs : Array Field} {l : List Field} {cs : Array Value} {b : Bool} {n : Nat} {W : World} (d : P.underlying kt = some (.struct fs)) (a : fs.toList = l) (h : ∀ f ∈ l, f.name ≠ "_" → ∃ v, (part f.type cs f.offset).run P W = .ok v W ∧ (Instr.checkKey b n f.type v).run P W = .ok () W) : (Instr.checkKey b (n + 1) kt (.agg cs)).run P W = .ok () W := by
 obtain ⟨fs⟩ := fs
 subst a
 simp only [Instr.checkKey, cK, aV d, bQ, List.forIn_toArray]
 have := I5 (P := P) (cs := cs) (b := b) (n := n) (W := W) fs h
 simp only [cK] at this
 first | rw [this]; rfl | simpa using this
end Go.Proofs.YtklbhegeiijbjaaGreat
namespace Go.Proofs.YtklbhegeiijbjaaGreat
open Go.RowKit
variable {dd : Bool}
def rh (b : Bool) : Option Unit := if b = true then some () else none
theorem Gr {b : Bool} {u : Unit} (h : rh b = some u) : b = true := by
 unfold rh at h; split at h
 ·assumption
 ·cases h
theorem vG {a c : Int} {u : Unit} (h : rh (decide (0 ≤ a) && decide (a ≤ c)) = some u) : 0 ≤ a := by have := Gr h; simp at this; exact this.1
theorem vw {a c : Int} {u : Unit} (h : rh (decide (0 ≤ a) && decide (a ≤ c)) = some u) : a ≤ c := by have := Gr h; simp at this; exact this.2
def xv (k : Nat) (v : Value) (i : Nat) (u : Value) : Prop := ∃ A n c A' a, v = .slice A n c ∧ u = .slice A' (n - i) a ∧ i ≤ n ∧ (i < n → ∃ b o, A = some ⟨b, o, none⟩ ∧ A' = some ⟨b, o + i * k, none⟩)
section
variable {P : Program} {E : Nat → Value} {W : World} {d : Option Nat} {ty : TypeId} {pos : String} {af : Array Edge} {g : Option (Nat × Bool)}
 {F : Nat → Prop} {w : World} {μ : lQ} {L : List (Nat × Obj)} {α : Type} {e' : TypeId} {enc : α → List Value} {k : Nat} {v : Value} {l : List α} {R : List (Nat × Obj)}
theorem AG {t e : TypeId} {x a : Operand} {z : IntKind} {i : Int} (n : P.underlying t = some (.slice e)) (he : ∀ w, (sizeOf e).run P w = .ok k w) (p : kV E x = v) (j : kV E a = .int z i) (h : lA e' enc k v l R) (r : 0 ≤ i) (m : i ≤ l.length) :
  ∃ u, xv k v i.toNat u ∧ ∀ W, nc P E ⟨d, .slice t x (some a) none none, ty, pos, af, g⟩ W u W := by
 rcases h with ⟨rfl, rfl, rfl⟩ | ⟨b, cap, q, rfl, rfl, h1, A, D, F⟩
 ·have : i = 0 := by simp at m; omega
  subst this
  refine ⟨.slice none 0 0, ⟨none, 0, 0, none, 0, rfl, rfl, aZ _, fun h => absurd h (by simp)⟩, fun W => ?_⟩
  show (do pure (.value (← Instr.sliceAt t (kV E x) (some (kV E a)) none none)) : Sem Next).run P W = _
  rw [p, j]
  simp [Instr.sliceAt, Instr.slice, Instr.sliceBounds, Instr.sliceBound, asIntOf, aV n, he W]
 ·refine ⟨.slice (some (if cap = i.toNat then ⟨b, 0, none⟩ else (Addr.add ⟨b, 0, none⟩ (i.toNat * k)))) (l.length - i.toNat) (cap - i.toNat), ⟨_, _, _, _, _, rfl, rfl, by omega, fun y => ⟨b, 0, rfl, ?_⟩⟩, fun W => ?_⟩
  ·rw [bB (by omega)]; simp [dG]
  ·show (do pure (.value (← Instr.sliceAt t (kV E x) (some (kV E a)) none none)) : Sem Next).run P W = _
   rw [p, j]
   have s : 0 ≤ i ∧ i ≤ (l.length : Int) := ⟨r, m⟩
   simp [Instr.sliceAt, Instr.slice, Instr.sliceBounds, Instr.sliceBound, asIntOf, aV n, he W, s]
   split <;> rfl
theorem Cc {i j : Nat} {x0 : α} (h : (l.drop i)[j]? = some x0) : l[i + j]? = some x0 := by rwa [dY] at h
theorem IL {t e : TypeId} {x : Operand} {u : Value} {i : Nat} (j : P.underlying t = some (.slice e)) (m : kV E x = u) (hu : xv k v i u) (h : lA e' enc k v l R) : nc P E ⟨d, .call ⟨.builtin .len, #[x], #[t]⟩, ty, pos, af, g⟩ W (.int .i64 ((l.length - i : Nat) : Int)) W := by
 obtain ⟨A, n, c, A', p, h1, b, r, _⟩ := hu
 subst b
 have : n = l.length := by
  rcases h with ⟨rfl, rfl, rfl⟩ | ⟨q, cap, a, rfl, rfl, _⟩
  ·cases h1; rfl
  ·cases h1; rfl
 subst this
 exact BK j m
theorem AP {t e : TypeId} {x m : Operand} {M : IntKind} {i : Int} {x0 : α} {u : Value} {o : Nat} (J : P.underlying t = some (.slice e)) (he : ∀ w, (sizeOf e).run P w = .ok k w) (L : kV E x = u) (G : kV E m = .int M i) (h : lA e' enc k v l R) (hu : xv k v o u) (z : 0 ≤ i) (I : (l.drop o)[i.toNat]? = some x0) :
  ∃ p, BL R k p (o + i.toNat) ∧ ∀ W, nc P E ⟨d, .indexAddr t x m, ty, pos, af, g⟩ W p W := by
 have a := Cc I
 have j : o + i.toNat < l.length := (bM.1 a).1
 rcases h with ⟨rfl, rfl, rfl⟩ | ⟨y, cap, q, rfl, rfl, h1, Q, T, U⟩
 ·simp at j
 obtain ⟨A, n, c, A', O, r, rfl, Y, D⟩ := hu
 cases r
 obtain ⟨b, Z, s, rfl⟩ := D (by omega)
 cases s
 refine ⟨.pointer (some ⟨y, (o + i.toNat) * k, none⟩), ⟨_, _, rfl, rfl⟩, fun W => ?_⟩
 show (do pure (.value (← Instr.indexAt t (kV E x) (kV E m))) : Sem Next).run P W = _
 rw [L, G]
 have F : 0 ≤ i ∧ i < ((l.length - o : Nat) : Int) := ⟨z, by omega⟩
 simp [Instr.indexAt, asIntOf, aV J, he W, F, dG, cP]
theorem Ie (ys : List Value) (m : Nat) : (Builtin.zeroCells ys.toArray m).toList = (List.replicate m ys).flatten := by
 unfold Builtin.zeroCells
 simp only [Array.toList_map, Array.toList_range, dV]
 rcases fG ys.length with a | a
 ·have : ys = [] := eZ.1 a
  subst this
  simp
 apply fM
 intro q
 by_cases d : q < m * ys.length
 ·have h1 : q / ys.length < m := (js a).2 d
  have b : q % ys.length < ys.length := Nat.mod_lt _ a
  have := xN (enc := fun _ : Unit => ys) (fun _ => rfl) (List.replicate m ()) (q / ys.length) () (by simp [h1]) (q % ys.length) ys[q % ys.length] (by simp [b])
  rw [Nat.div_add_mod' q ys.length] at this
  rw [List.map_replicate] at this
  rw [this]
  simp [d, b]
 ·rw [iw (by simp; omega), iw (by simp; omega)]
theorem Ls {K : Value → World → Prop} (z : α) (X : List (Nat × Obj)) {Y : List (Nat × Obj)} {t e : TypeId} {x : Operand} {u U : Value} {i : Nat} (p : ST dd F w W μ (X ++ (R ++ Y))) (h : lA e' enc k v l R) (hk : ∀ x, (enc x).length = k) (h1 : ∀ x, ∀ u ∈ enc x, u.oneCell' = true) (M : P.underlying t = some (.slice e)) (hz : ∀ w, (zeroValue e).run P w = .ok U w) (hu : xv k v i u) (hc : U.cells = (enc z).toArray) (hx : kV E x = u) (J : ∀ W' R', ST dd F w W' μ (X ++ (R' ++ Y)) → lA e' enc k v (pk l i z) R' → K (.tuple #[]) W') : ov P E ⟨d, .call ⟨.builtin .clear, #[x], #[t]⟩, ty, pos, af, g⟩ W K := by
 have j : ∀ (W' : World), (Builtin.clear_ #[t] ty #[u]).run P W = .ok (.tuple #[]) W' → (execOp (kV E) ⟨d, .call ⟨.builtin .clear, #[x], #[t]⟩, ty, pos, af, g⟩).run P W = .ok (.value (.tuple #[])) W' := by
  intro W' hV
  show (do let d ← resolve (kV E) ⟨.builtin .clear, #[x], #[t]⟩ ty; invoke d.target d.args : Sem Next).run P W = _
  simp [resolve, invoke, builtin, hx, hV]
 obtain ⟨A, n, c, A', c', Z, rfl, y, h8⟩ := hu
 rcases h with ⟨rfl, rfl, rfl⟩ | ⟨r, cap, a, rfl, rfl, T, q2, G, q4⟩
 ·cases Z
  refine .inl ⟨_, W, j W ?_, J W [] p (by simpa [pk] using lA.nil e' enc k)⟩
  simp only [Builtin.clear_, Nat.zero_sub]
  cases A' <;> simp [aV M]
 ·cases Z
  by_cases hi : i < l.length
  ·obtain ⟨b, o, e2, rfl⟩ := h8 hi
   cases e2
   have Q : ∀ m, (Builtin.zeroCells U.cells m).toList = (List.replicate m (enc z)).flatten := by
    intro m
    rw [hc]; exact Ie _ _
   have hb := (p.box r (.cells a e' (0, 0)) (by simp)).1
   have hle : i * k + (l.length - i) * k = l.length * k := by rw [← cP]; congr 1; omega
   have hlen : l.length * k ≤ c * k := cI _ T
   have q : ((List.replicate (l.length - i) (enc z)).flatten).length = (l.length - i) * k := by simp [hk]
   have s : ∀ v ∈ (List.replicate (l.length - i) (enc z)).flatten, v.oneCell' = true := by
    intro v D
    obtain ⟨ys, O, D⟩ := jt.1 D
    rw [(List.mem_replicate.1 O).2] at D
    exact h1 z v D
   have hs := jR (P := P) r (i * k) e' ((List.replicate (l.length - i) (enc z)).flatten) 0 a W hb (by rw [q, G]; omega) s
   rw [jh, q, hle] at hs
   refine .inl ⟨_, W.setRow r (a.toList.take (i * k) ++ (List.replicate (l.length - i) (enc z)).flatten ++ a.toList.drop (l.length * k)).toArray, j _ ?_, J _ [(r, .cells (a.toList.take (i * k) ++ (List.replicate (l.length - i) (enc z)).flatten ++ a.toList.drop (l.length * k)).toArray e' (0, 0))] (p.store _) (.inr ⟨r, c, _, by rw [vm _ _ _ y], rfl, by rw [vm _ _ _ y]; exact T, q2, ?_, ?_⟩)⟩
   ·have hn : l.length - i = (l.length - i - 1) + 1 := by omega
    simp only [Builtin.clear_]
    rw [hn]
    simp only [aV M, cK, bQ, List.getElem?_toArray, jb, hz, fO]
    rw [← hn, Q, hs]
    simp
   ·have I : a.toList.length = c * k := by simpa using G
    rw [dV, aF, aF, cQ, eP, q, I, dE (by omega)]
    omega
   ·rw [vm _ _ _ y, pk, cL, cT, Cy hk l i y, ← q4, iG, dE (by omega), List.map_replicate]
    have I : a.toList.length = c * k := by simpa using G
    have e3 : (a.toList.take (i * k) ++ (List.replicate (l.length - i) (enc z)).flatten).length = l.length * k := by rw [aF, cQ, q, I, dE (by omega)]; omega
    show List.take (l.length * k) (a.toList.take (i * k) ++ (List.replicate (l.length - i) (enc z)).flatten ++ a.toList.drop (l.length * k)) = _
    rw [fV, dN (by rw [e3]; exact aZ _), e3, Nat.sub_self]
    simp
  ·have L : i = l.length := by omega
   subst L
   refine .inl ⟨_, W, j W ?_, J W _ p ?_⟩
   ·simp only [Builtin.clear_, Nat.sub_self]
    cases A' <;> simp [aV M]
   ·simp only [pk, List.take_length, Nat.sub_self, List.replicate_zero, bG]
    exact .inr ⟨r, c, a, rfl, rfl, T, q2, G, q4⟩
end
end Go.Proofs.YtklbhegeiijbjaaGreat
namespace Go.Proofs.YtklbhegeiijbjaaGreat
open Go.RowKit
variable {dd : Bool}
section
variable {P : Program} {E : Nat → Value} {W : World} {d : Option Nat} {ty : TypeId} {pos : String} {af : Array Edge} {g : Option (Nat × Bool)}
 {F : Nat → Prop} {w : World} {μ : lQ} {L : List (Nat × Obj)}
theorem MY {K : Value → World → Prop} {f : FuncId} {fv : Operand} {ax : Array Operand} {ats : Array TypeId} {args : List Value} {v : Value} (b : kV E fv = .func (.func f) #[] #[]) (ha : ax.map (kV E) ++ (#[] : Array Value) = args.toArray) (i : (callFunc f args.toArray).run P W = .ok (.value v) W) (h : K v W) : ov P E ⟨d, .call ⟨.value fv, ax, ats⟩, ty, pos, af, g⟩ W K := by
 have a : ax.map (kV E) = args.toArray := by simpa using ha
 refine .inl ⟨v, W, ?_, h⟩
 show (do let d ← resolve (kV E) ⟨.value fv, ax, ats⟩ ty; invoke d.target d.args : Sem Next).run P W = _
 simp only [resolve, b, Deferred.ofValue, cK, dH, bQ, invoke]
 rw [a]
 simpa using i
def ym (s : ByteArray) (c : Int) : Int := Lib.indexByte s.data.toList c.toNat.toUInt8
def qk (a b : ByteArray) : Int := Lib.compareBytes a.data.toList b.data.toList
def vg (l : List Int) : List UInt8 := l.map fun x => x.toNat.toUInt8
def zj (a b : List Int) : Int := Lib.compareBytes (vg a) (vg b)
theorem HV {f : FuncId} {fn : Func} (d : P.funcs[f]? = some fn) (a : (fn.name == "runtime.NumGoroutine") = false) (b : fn.body.isNone = true) (g : Extern.findNext fn = none) (he : Extern.find fn = some Extern.BytealgIndexByte.indexByte) (s : ByteArray) (c : Int) (w : World) :
  (callFunc f [Value.string s, .int .u8 c].toArray).run P w = .ok (.value (.int .i64 (ym s c))) w := by
 rw [jF d a b g he]
 rw [Lib.run_indexByteString]
 rfl
theorem OO {f : FuncId} {fn : Func} (h : P.funcs[f]? = some fn) (d : (fn.name == "runtime.NumGoroutine") = false) (g : fn.body.isNone = true) (i : Extern.findNext fn = none) (he : Extern.find fn = some Extern.BytealgCompare.compare) (a b : ByteArray) (w : World) :
  (callFunc f [Value.string a, .string b].toArray).run P w = .ok (.value (.int .i64 (qk a b))) w := by
 rw [jF h d g i he]
 rw [Lib.run_compareString]
 rfl
theorem Eu {v : Value} {l : List Int} (h : Sl (Pl (mM .u8)) 1 (hp W) v l) : (Extern.Bytes.bytesOf v).run P W = .ok ⟨(vg l).toArray⟩ W := by
 obtain ⟨A, c, rfl, p, q, i⟩ := h
 rcases fG l.length with a | a
 ·have : l = [] := eZ.1 a
  subst this
  cases A <;> simp [Extern.Bytes.bytesOf, Extern.Bytes.loadBytes, vg] <;> rfl
 ·obtain ⟨b, off, cs, T, fr, rfl, k, m⟩ := i a
  have := Lib.run_loadBytesX (P := P) W l ⟨b, off, none⟩ .empty (fun j x n => by
   obtain ⟨ys, _, g, d⟩ := m j x n
   cases g
   rw [dG, iE W b (off + j) cs T fr k]
   have := d 0 (.int .u8 x) rfl
   simpa using this)
  simp only [Extern.Bytes.bytesOf]
  rw [this]
  congr 1
  apply jY
  show (#[] : Array UInt8) ++ _ = _
  simp [Lib.bytesOf, vg]
theorem Pu {f : FuncId} {fn : Func} (k : P.funcs[f]? = some fn) (d : (fn.name == "runtime.NumGoroutine") = false) (j : fn.body.isNone = true) (l : Extern.findNext fn = none) (he : Extern.find fn = some Extern.BytealgCompare.compare) {g h : Value} {a b : List Int} (h1 : Sl (Pl (mM .u8)) 1 (hp W) g a) (i : Sl (Pl (mM .u8)) 1 (hp W) h b) :
  (callFunc f [g, h].toArray).run P W = .ok (.value (.int .i64 (zj a b))) W := by
 rw [jF k d j l he]
 have : (Extern.BytealgCompare.compare [g, h].toArray).run P W = .ok (.int .i64 (zj a b)) W := by
  change Sem.run P (do pure (goInt (Extern.BytealgCompare.cmp (← Extern.Bytes.bytesOf g) (← Extern.Bytes.bytesOf h)))) W = _
  simp only [cK, Eu h1, Eu i, dH, Result.andThen]
  rw [Lib.cmp_eq]
  rfl
 rw [this]
 rfl
theorem Hc {t e : TypeId} {k b m c o : Nat} {x a : Operand} {s : IntKind} {i : Int} (q : P.underlying t = some (.slice e)) (he : ∀ w, (sizeOf e).run P w = .ok k w) (r : kV E x = .slice (some ⟨b, 0, none⟩) m c) (l : kV E a = .int s i) (h : 0 ≤ i) (n : i < (m : Int)) (p : i.toNat * k = o) :
  nc P E ⟨d, .indexAddr t x a, ty, pos, af, g⟩ W (.pointer (some ⟨b, o, none⟩)) W := by
 show (do pure (.value (← Instr.indexAt t (kV E x) (kV E a))) : Sem Next).run P W = _
 rw [r, l]
 subst p
 have j : 0 ≤ i ∧ i < (m : Int) := ⟨h, n⟩
 simp [Instr.indexAt, asIntOf, aV q, he W, j, dG]
theorem xa {fn : Fn} {caps : Array Operand} {cs : List Value} {v : Value} (a : caps.map (kV E) ++ (#[] : Array Value) = cs.toArray) (b : .func fn #[] cs.toArray = v) : nc P E ⟨d, .makeFunc fn #[] caps, ty, pos, af, g⟩ W v W := by
 have : caps.map (kV E) = cs.toArray := by simpa using a
 exact MH (by rw [this]; simpa using b)
theorem mZ.mono {f : FuncId} {args : List Value} {L0 : List (Nat × Obj)} {K K' : Value → List (Nat × Obj) → World → Prop} (h : mZ dd P f args w L0 K) (hk : ∀ v L1 W', K v L1 W' → K' v L1 W') : mZ dd P f args w L0 K' :=
 dZ h (fun _ _ ⟨v, L1, h1, a, b⟩ => ⟨v, L1, h1, a, hk _ _ _ b⟩)
end
section
variable {α : Type}
def vt (cf : α × α → Option Int) (x y : α) : Bool := match cf (x, y) with
 | some c => decide (c < 0)
 | none => false
structure EV (cf : α × α → Option Int) (l : List α) : Prop where
 is : ∀ x ∈ l, ∀ y ∈ l, ∃ c, cf (x, y) = some c
 irrefl : ∀ x ∈ l, vt cf x x = false
 trans : ∀ x ∈ l, ∀ y ∈ l, ∀ z ∈ l, vt cf x y = true → vt cf y z = true → vt cf x z = true
 total : ∀ x ∈ l, ∀ y ∈ l, vt cf x y = false → vt cf y x = false → x = y
 short : l.length < 4611686018427387904
def uK (cf : α × α → Option Int) (l : List α) : List α := l.mergeSort fun x y => !vt cf y x
open Classical in
noncomputable def AL (cf : α × α → Option Int) (l : List α) : Option (List α) := if EV cf l then some (uK cf l) else none
theorem HL {cf : α × α → Option Int} {l r : List α} (h : AL cf l = some r) : EV cf l ∧ r = uK cf l := by
 unfold AL at h
 split at h
 ·rename_i a; cases h; exact ⟨a, rfl⟩
 ·cases h
theorem PK {cf : α × α → Option Int} {l : List α} (h : EV cf l) : AL cf l = some (uK cf l) := by
 unfold AL; rw [aX h]
def vZ (l : List ByteArray) : List ByteArray := l.mergeSort fun x y => !rq y x
end
end Go.Proofs.YtklbhegeiijbjaaGreat
namespace Go.Proofs.YtklbhegeiijbjaaGreat
open Go.RowKit
theorem zG {P : Program} {t e : TypeId} {n k : Nat} {z cs : Array Value} {a : Array (Nat × Value)} (h : ∀ w, (zeroValue t).run P w = .ok (.agg z) w) (g : P.underlying t = some (.array n e)) (d : ∀ w, (sizeOf e).run P w = .ok k w) (b : Instr.fill (fun i => some (i * k, k)) z a.toList = some cs) (W : World) : (Instr.build t a).run P W = .ok (.agg cs) W := by
 simp only [Instr.build, cK, h W, bQ, aV g, Value.cells, d W]
 simp only [b, dH]
theorem Ln {P : Program} {W : World} (d : Nat) (e : TypeId) (c : Nat) (xs ys : Array Value) : (Op.eqItems d e c xs ys []).run P W = .ok true W := by simp [Op.eqItems]
theorem Fh {P : Program} {W : World} {d : Nat} {e : TypeId} {c : Nat} {xs ys : Array Value} {i : Nat} {is : List Nat} {a b : Value} {r s : Bool} (ha : (part e xs (i * c)).run P W = .ok a W) (g : (part e ys (i * c)).run P W = .ok b W) (he : (Op.equalIn d e a b).run P W = .ok r W) (h : (Op.eqItems d e c xs ys is).run P W = .ok s W) : (Op.eqItems d e c xs ys (i :: is)).run P W = .ok (r && s) W := by
 simp only [Op.eqItems, cK, ha, g, he, bQ]
 cases r <;> simp [h]
theorem MC {P : Program} {W : World} {d : Nat} {t e : TypeId} {n c : Nat} {i : TypeInfo} {xs ys : Array Value} {r : Bool} (hu : P.underlying t = some (.array n e)) (b : P.info? e = some i) (a : P.cellsOf e = c) (h : (Op.eqItems d e c xs ys (List.range n)).run P W = .ok r W) : (Op.equalIn (d + 1) t (.agg xs) (.agg ys)).run P W = .ok r W := by
 rw [run_equalIn_array W d xs ys hu b, a, h]
end Go.Proofs.YtklbhegeiijbjaaGreat
namespace Go.Proofs.YtklbhegeiijbjaaGreat
open Go.RowKit
variable {dd : Bool}
def xQ {κ γ : Type} (Q : Value → γ → List (Nat × Obj) → Prop) : List (κ × Value) → List (κ × γ) → List (Nat × Obj) → Prop
 | [], [], R => R = []
 | p :: a, q :: l, R => p.1 = q.1 ∧ ∃ R1 R2, R = R1 ++ R2 ∧ Q p.2 q.2 R1 ∧ xQ Q a l R2
 | _, _, _ => False
def nV {κ γ : Type} (kenc : κ → Value) (Q : Value → γ → List (Nat × Obj) → Prop) (v : Value) (d : List (κ × Value)) (l : List (κ × γ)) (R : List (Nat × Obj)) : Prop :=
 ∃ a b, R = a ++ b ∧ nh kenc (fun x => x) v d a ∧ xQ Q d l b
section
variable {κ γ : Type} {Q : Value → γ → List (Nat × Obj) → Prop} {beq : κ → κ → Bool} {kenc : κ → Value}
theorem xQ.keys : ∀ {a : List (κ × Value)} {l : List (κ × γ)} {R : List (Nat × Obj)}, xQ Q a l R → a.map (·.1) = l.map (·.1)
 | [], [], _, _ => rfl
 | [], _ :: _, _, h => h.elim
 | _ :: _, [], _, h => h.elim
 | p :: a, q :: l, R, h => by
  obtain ⟨h1, R1, R2, _, _, b⟩ := h
  simp [h1, xQ.keys b]
theorem xQ.find {a : List (κ × Value)} {l : List (κ × γ)} {R : List (Nat × Obj)} (h : xQ Q a l R) (k : κ) : a.findIdx? (fun p => beq k p.1) = l.findIdx? (fun p => beq k p.1) := by
 have h1 : (a.map (·.1)).findIdx? (fun x => beq k x) = (l.map (·.1)).findIdx? (fun x => beq k x) := by rw [h.keys]
 rw [jg, jg] at h1
 exact h1
theorem xQ.get : ∀ {d : List (κ × Value)} {l : List (κ × γ)} {R : List (Nat × Obj)}, xQ Q d l R → ∀ (i : Nat) (k : κ) (x : γ), l[i]? = some (k, x) →
  ∃ v A R1 B, d[i]? = some (k, v) ∧ R = A ++ (R1 ++ B) ∧ Q v x R1 ∧ ∀ b v2 x2 R2, Q v2 x2 R2 → xQ Q (d.set i (b, v2)) (l.set i (b, x2)) (A ++ (R2 ++ B))
 | [], [], _, _, i, k, x, a => by simp at a
 | [], _ :: _, _, h, _, _, _, _ => h.elim
 | _ :: _, [], _, h, _, _, _, _ => h.elim
 | p :: d, q :: l, R, h, 0, k, x, a => by
  obtain ⟨h1, R1, R2, rfl, g, j⟩ := h
  simp at a
  subst a
  refine ⟨p.2, [], R1, R2, by simp only [jb]; exact bL some (Prod.ext h1 rfl), rfl, g, fun b v2 x2 R2' m => ⟨rfl, R2', R2, rfl, m, j⟩⟩
 | p :: d, q :: l, R, h, i + 1, k, x, a => by
  obtain ⟨h1, R1, R2, rfl, g, j⟩ := h
  simp at a
  obtain ⟨v, A, R1', B, g1, rfl, g3, g4⟩ := xQ.get j i k x a
  exact ⟨v, R1 ++ A, R1', B, by simpa using g1, by simp, g3, fun b v2 x2 R2' m => ⟨h1, R1, A ++ (R2' ++ B), by simp, g, g4 b v2 x2 R2' m⟩⟩
theorem xQ.push : ∀ {b : List (κ × Value)} {l : List (κ × γ)} {R : List (Nat × Obj)}, xQ Q b l R → ∀ (k : κ) {v : Value} {x : γ} {R1 : List (Nat × Obj)}, Q v x R1 → xQ Q (b ++ [(k, v)]) (l ++ [(k, x)]) (R ++ R1)
 | [], [], _, h, k, v, x, R1, a => by
  have i : _ = [] := h
  subst i
  exact ⟨rfl, R1, [], by simp, a, rfl⟩
 | [], _ :: _, _, h, _, _, _, _, _ => h.elim
 | _ :: _, [], _, h, _, _, _, _, _ => h.elim
 | p :: b, q :: l, R, h, k, v, x, R1, a => by
  obtain ⟨h1, d, g, rfl, j, m⟩ := h
  exact ⟨h1, d, g ++ R1, by simp, j, xQ.push m k a⟩
theorem nV.found {t : Value} {d : List (κ × Value)} {l : List (κ × γ)} {R : List (Nat × Obj)} (hk : ∀ {x y : κ}, beq x y = true → x = y) (h : nV kenc Q t d l R) {k : κ} {x : γ} (b : mJ beq l k = some x) :
  ∃ v A R1 B, mJ beq d k = some v ∧ R = A ++ (R1 ++ B) ∧ Q v x R1 ∧ (∀ x2 R2, Q v x2 R2 → nV kenc Q t d (po beq l k x2) (A ++ (R2 ++ B))) := by
 obtain ⟨r, D, rfl, u, s⟩ := h
 rw [za] at b
 cases g : l.findIdx? (fun p => beq k p.1) with
 | none => rw [g] at b; cases b
 | some i =>
  rw [g] at b
  obtain ⟨p, hp, w⟩ := tz g
  simp only [aA, hp, fE, iA] at b
  subst b
  have q := hk w
  obtain ⟨v, A, R1, B, g1, rfl, g3, g4⟩ := s.get i p.1 p.2 hp
  have m : d.findIdx? (fun p => beq k p.1) = some i := by rw [s.find k, g]
  refine ⟨v, r ++ A, R1, B, by rw [za, m]; simp [g1], by simp, g3, fun x2 R2 z => ⟨r, A ++ (R2 ++ B), by simp, u, ?_⟩⟩
  have a := g4 k v x2 R2 z
  have e : d.set i (k, v) = d := by
   apply fM
   intro j
   rw [gF]
   split
   ·rename_i n
    subst n
    rw [g1, q]
    simp [(bM.1 g1).1]
   ·rfl
  rw [e] at a
  rw [po, g]
  exact a
theorem nV.MV {j : Value} {d : List (κ × Value)} {l : List (κ × γ)} {R : List (Nat × Obj)} (h : nV kenc Q j d l R) {k : κ} (a : mJ beq l k = none) : mJ beq d k = none := by
 obtain ⟨m, n, rfl, q, g⟩ := h
 rw [za] at a ⊢
 rw [g.find k]
 cases b : l.findIdx? (fun p => beq k p.1) with
 | none => rfl
 | some i =>
  rw [b] at a
  obtain ⟨p, hp, r⟩ := tz b
  simp [hp] at a
def sG (beq : κ → κ → Bool) (a : List (κ × Value)) (k : κ) (z : Value) : Value := (mJ beq a k).getD z
variable {P : Program} {W : World} {kt : TypeId} {E : Nat → Value} {d : Option Nat} {ty : TypeId} {pos : String} {af : Array Edge} {g : Option (Nat × Bool)} {F : Nat → Prop} {w : World} {μ : lQ} {L : List (Nat × Obj)}
theorem qg {t e : TypeId} {m x : Operand} {i z : Value} {a : List (κ × Value)} {l : List (κ × γ)} {R : List (Nat × Obj)} {k : κ} (K : qz P kt kenc beq) (r : P.underlying t = some (.map kt e)) (u : ∀ w, (zeroValue e).run P w = .ok z w) (hm : kV E m = i) (s : kV E x = kenc k) (p : nV kenc Q i a l R) (q : ∀ b o, (b, o) ∈ R → W.heap[b]? = some o) : nc P E ⟨d, .lookup t m x false, ty, pos, af, g⟩ W (sG beq a k z) W := by
 obtain ⟨v, y, rfl, j, A⟩ := p
 have n := JR (d := d) (ty := ty) (pos := pos) (af := af) (g := g) K r u hm s (j.at (μ := hp W) (fun b o h => q b o (cO _ h)))
 simpa [sG] using n
variable {κ2 β : Type} {kenc2 : κ2 → Value} {vf : β → Value} {beq2 : κ2 → κ2 → Bool} {kt2 : TypeId}
theorem nV.D4 {j : Value} {d : List (κ × Value)} {l : List (κ × List (κ2 × β))} {R : List (Nat × Obj)} (hk : ∀ {x y : κ}, beq x y = true → x = y) (h : nV kenc (nh kenc2 vf) j d l R) (k : κ) {μ : lQ} (g : ∀ b o, (b, o) ∈ R → μ b = some o) :
  xt kenc2 vf μ (sG beq d k (.map none)) ((mJ beq l k).getD []) := by
 cases a : mJ beq l k with
 | none => rw [sG, h.MV a]; exact .inl ⟨rfl, rfl⟩
 | some x =>
  obtain ⟨v, A, R1, B, g1, rfl, g3, _⟩ := h.found hk a
  rw [sG, g1]
  exact g3.at (fun b o i => g b o (by simp [i]))
theorem nV.isNil {d : Value} {b : List (κ × Value)} {l : List (κ × List (κ2 × β))} {R : List (Nat × Obj)} (hk : ∀ {x y : κ}, beq x y = true → x = y) (h : nV kenc (nh kenc2 vf) d b l R) (k : κ) :
  ∃ r, sG beq b k (.map none) = .map r ∧ r.isNone = (mJ beq l k).isNone := by
 cases a : mJ beq l k with
 | none => rw [sG, h.MV a]; exact ⟨none, rfl, rfl⟩
 | some x =>
  obtain ⟨v, A, R1, B, g1, rfl, g3, _⟩ := h.found hk a
  obtain ⟨m, es, clock, rfl, _⟩ := g3
  rw [sG, g1]
  exact ⟨_, rfl, rfl⟩
def Gw {κ κ2 β : Type} (beq : κ → κ → Bool) (beq2 : κ2 → κ2 → Bool) (l : List (κ × List (κ2 × β))) (k : κ) (a : κ2) (x : β) : Option (List (κ × List (κ2 × β))) := (mJ beq l k).map fun b => po beq l k (po beq2 b a x)
def GR {κ γ : Type} (beq : κ → κ → Bool) (l : List (κ × γ)) (k : κ) (x : γ) : Option (List (κ × γ)) := if (mJ beq l k).isNone then some (po beq l k x) else none
theorem OI {q : Value → World → Prop} (X : List (Nat × Obj)) {Y R : List (Nat × Obj)} {t e : TypeId} {m x y : Operand} {z : Value} {p : List (κ × Value)} {l s : List (κ × List (κ2 × β))} {k : κ} {r : κ2} {v : β} (hk : ∀ {x y : κ}, beq x y = true → x = y) (K : qz P kt2 kenc2 beq2) (I : P.underlying t = some (.map kt2 e)) (i : ST dd F w W μ (X ++ (R ++ Y))) (h : nV kenc (nh kenc2 vf) z p l R) (hm : kV E m = sG beq p k (.map none)) (J : kV E x = kenc2 r) (L : kV E y = vf v) (b : Gw beq beq2 l k r v = some s) (G : ∀ W' R', ST dd F w W' μ (X ++ (R' ++ Y)) → nV kenc (nh kenc2 vf) z p s R' → q undef W') : ov P E ⟨d, .mapUpdate t m x y, ty, pos, af, g⟩ W q := by
 unfold Gw at b
 cases j : mJ beq l k with
 | none => rw [j] at b; cases b
 | some M =>
  rw [j] at b
  cases b
  obtain ⟨u, A, R1, B, g1, rfl, g3, g4⟩ := h.found hk j
  have n : kV E m = u := by rw [hm, sG, g1]; rfl
  have a : ST dd F w W μ ((X ++ A) ++ (R1 ++ (B ++ Y))) := by simpa using i
  refine CX (X ++ A) K I a g3 n J L (fun W' R' h1 D => G W' (A ++ (R' ++ B)) ?_ (g4 _ _ D))
  simpa using h1
theorem NG {D : Value → World → Prop} (X : List (Nat × Obj)) {Y R R2 : List (Nat × Obj)} {t e : TypeId} {m x y : Operand} {A : Value} {v : List (κ × Value)} {l J : List (κ × γ)} {k : κ} {u : Value} {z : γ} (K : qz P kt kenc beq) (ht : P.underlying t = some (.map kt e)) (s : ST dd F w W μ (X ++ (R ++ (R2 ++ Y)))) (h : nV kenc Q A v l R) (hm : kV E m = A) (hx : kV E x = kenc k) (hy : kV E y = u) (hq : Q u z R2) (b : GR beq l k z = some J) (U : ∀ W' R', ST dd F w W' μ (X ++ (R' ++ Y)) → nV kenc Q A (po beq v k u) J R' → D undef W') : ov P E ⟨d, .mapUpdate t m x y, ty, pos, af, g⟩ W D := by
 unfold GR at b
 cases n : mJ beq l k with
 | some l2 => rw [n] at b; cases b
 | none =>
  rw [n] at b
  simp only [Option.isNone_none, aN, iA] at b
  subst b
  have Z := h.MV n
  obtain ⟨M, r, rfl, O, T⟩ := h
  have j : ST dd F w W μ (X ++ (M ++ (r ++ (R2 ++ Y)))) := by simpa using s
  refine CX X K ht j O hm hx hy (fun W' R' g1 g2 => U W' (R' ++ (r ++ R2)) (by simpa using g1) ⟨R', r ++ R2, rfl, g2, ?_⟩)
  have G : ∀ {L : Type} (q : List (κ × L)) (y : L), mJ beq q k = none → po beq q k y = q ++ [(k, y)] := fun q y a => by
   rw [za] at a
   rw [po]
   cases I : q.findIdx? (fun p => beq k p.1) with
   | none => rfl
   | some i =>
    obtain ⟨p, hp, _⟩ := tz I
    rw [I] at a
    simp [hp] at a
  rw [G v u Z, G l z n]
  exact T.push k hq
end
end Go.Proofs.YtklbhegeiijbjaaGreat
namespace Go.Proofs.YtklbhegeiijbjaaGreat
open Go.RowKit
variable {dd : Bool}
section
variable {κ γ : Type} {Q : Value → γ → List (Nat × Obj) → Prop} {beq : κ → κ → Bool} {kenc : κ → Value}
theorem sh {a : Type} {l : List (κ × a)} {k : κ} {i : Nat} (h : l.findIdx? (fun p => beq k p.1) = some i) (x : a) : po beq l k x = l.set i (k, x) := by rw [po, h]
theorem wm {a : Type} {l : List (κ × a)} {k : κ} (h : l.findIdx? (fun p => beq k p.1) = none) (x : a) : po beq l k x = l ++ [(k, x)] := by rw [po, h]
theorem EK {a : Type} {l : List (κ × a)} {k : κ} (h : l.findIdx? (fun p => beq k p.1) = none) : mJ beq l k = none := by rw [za, h]; rfl
theorem D3 {a : Type} {l : List (κ × a)} {k : κ} {i : Nat} {p : κ × a} (h : l.findIdx? (fun p => beq k p.1) = some i) (hp : l[i]? = some p) : mJ beq l k = some p.2 := by rw [za, h]; simp [hp]
def Nd (beq : κ → κ → Bool) (kenc : κ → Value) (Q : Value → γ → List (Nat × Obj) → Prop) (d : Value) (b : List (κ × Value)) (l : List (κ × γ)) (k : κ) (R : List (Nat × Obj)) : Prop :=
 ∃ a A B, R = a ++ (A ++ B) ∧ nh kenc (fun x => x) d b a ∧ ∀ v x R1, Q v x R1 → xQ Q (po beq b k v) (po beq l k x) (A ++ (R1 ++ B))
theorem nV.open (hk : ∀ {x y : κ}, beq x y = true → x = y) {s z : Value} {x0 : γ} (m : Q z x0 []) {n : List (κ × Value)} {l : List (κ × γ)} {R : List (Nat × Obj)} (h : nV kenc Q s n l R) (k : κ) :
  ∃ R' R1, R.Perm (R' ++ R1) ∧ Q (sG beq n k z) ((mJ beq l k).getD x0) R1 ∧ Nd beq kenc Q s n l k R' := by
 obtain ⟨d, q, rfl, r, g⟩ := h
 have b := g.find (beq := beq) k
 cases a : l.findIdx? (fun p => beq k p.1) with
 | none =>
  rw [a] at b
  refine ⟨d ++ q, [], by simp, ?_, d, q, [], by simp, r, fun v x R1 j => ?_⟩
  ·rw [sG, EK a, EK b]; exact m
  ·rw [wm a, wm b]; simpa using g.push k j
 | some i =>
  rw [a] at b
  obtain ⟨p, hp, t⟩ := tz a
  have u := hk t
  obtain ⟨v, A, R1, B, g1, rfl, g3, g4⟩ := g.get i p.1 p.2 hp
  refine ⟨d ++ (A ++ B), R1, ?_, ?_, d, A, B, rfl, r, fun v2 x2 R2 j => ?_⟩
  ·rw [aM, aM]
   refine cJ _ (cJ _ fZ)
  ·rw [sG, D3 a hp, D3 b g1]; exact g3
  ·rw [sh a, sh b]; exact g4 k v2 x2 R2 j
variable {P : Program} {W : World} {kt : TypeId} {E : Nat → Value} {d : Option Nat} {ty : TypeId} {pos : String} {af : Array Edge} {g : Option (Nat × Bool)} {F : Nat → Prop} {w : World} {μ : lQ} {L : List (Nat × Obj)}
theorem SA {j : Value → World → Prop} (X : List (Nat × Obj)) {Y R R1 : List (Nat × Obj)} {t e : TypeId} {m x y : Operand} {i : Value} {n : List (κ × Value)} {l : List (κ × γ)} {k : κ} {u : Value} {z : γ} (K : qz P kt kenc beq) (D : P.underlying t = some (.map kt e)) (b : ST dd F w W μ (X ++ (R ++ (R1 ++ Y)))) (h : Nd beq kenc Q i n l k R) (hm : kV E m = i) (G : kV E x = kenc k) (I : kV E y = u) (v : Q u z R1) (s : ∀ W' R', ST dd F w W' μ (X ++ (R' ++ Y)) → nV kenc Q i (po beq n k u) (po beq l k z) R' → j undef W') : ov P E ⟨d, .mapUpdate t m x y, ty, pos, af, g⟩ W j := by
 obtain ⟨p, A, B, rfl, q, r⟩ := h
 have a : ST dd F w W μ (X ++ (p ++ (A ++ (B ++ (R1 ++ Y))))) := by simpa using b
 refine CX X K D a q hm G I (fun W' R' g1 g2 => s W' (R' ++ (A ++ (R1 ++ B))) ?_ ⟨R', A ++ (R1 ++ B), rfl, g2, r u z R1 v⟩)
 refine g1.perm ?_
 simp only [aM]
 refine cJ _ (cJ _ (cJ _ ?_))
 rw [← aM, ← aM]
 exact ji _ fZ
def Jz (beq : κ → κ → Bool) (kenc : κ → Value) (Q : Value → γ → List (Nat × Obj) → Prop) (b : Value) (l : List (κ × γ)) (k : κ) (d : Nat) (R : List (Nat × Obj)) : Prop :=
 ∃ m es clock a A B i e, b = .map (some m) ∧ R = (m, .map es clock) :: (A ++ B) ∧ vP kenc (fun x => x) a es clock ∧ es[i]? = some e ∧ e.born = d ∧ a.findIdx? (fun p => beq k p.1) = some i ∧
  ∀ v x R1, Q v x R1 → xQ Q (po beq a k v) (po beq l k x) (A ++ (R1 ++ B))
theorem ID {h : Type} (hk : ∀ x : κ, beq x x = true) (g : List (κ × h)) (k : κ) (a b : h) : po beq (po beq g k a) k b = po beq g k b := by
 cases d : g.findIdx? (fun p => beq k p.1) with
 | none =>
  have h1 : (g ++ [(k, a)]).findIdx? (fun p => beq k p.1) = some g.length := by
   rw [jx, d]
   simp [fY, hk]
  rw [wm d, wm d, sh h1]
  simp
 | some i =>
  obtain ⟨p, hp, q⟩ := tz d
  have h1 : (g.set i (k, a)).findIdx? (fun p => beq k p.1) = some i := by
   rw [fC] at d ⊢
   obtain ⟨h1, n, l⟩ := d
   refine ⟨by simpa using h1, by simp [hk], fun j m => ?_⟩
   rw [List.getElem_set_ne (by omega)]
   exact l j m
  rw [sh d, sh d, sh h1]
  simp
end
end Go.Proofs.YtklbhegeiijbjaaGreat
namespace Go.Proofs.YtklbhegeiijbjaaGreat
open Go.RowKit
variable {dd : Bool}
section
variable {κ γ : Type} {Q : Value → γ → List (Nat × Obj) → Prop} {beq : κ → κ → Bool} {kenc : κ → Value}
variable {P : Program} {W : World} {kt : TypeId} {E : Nat → Value} {d : Option Nat} {ty : TypeId} {pos : String} {af : Array Edge} {g : Option (Nat × Bool)} {F : Nat → Prop} {w : World} {μ : lQ} {L : List (Nat × Obj)}
theorem EN {es : Array MapEntry} {i : Nat} {f b : MapEntry → MapEntry} (h : ∀ e, es[i]? = some e → f e = b e) : es.modify i f = es.modify i b := by
 apply Array.ext_getElem?
 intro j
 rw [eU, eU]
 split
 ·rename_i a
  subst a
  cases he : es[i]? with
  | none => rfl
  | some e => simp [h e he]
 ·rfl
theorem vP.val {b : List (κ × Value)} {es : Array MapEntry} {clock : Nat} (h : vP kenc (fun x => x) b es clock) {i : Nat} {e : MapEntry} (he : es[i]? = some e) : ∃ p, b[i]? = some p ∧ e.key = kenc p.1 ∧ e.val = p.2 := by
 have a := bL (fun q => q[i]?) h.FM
 simp only [gG, dT, he, fE] at a
 cases hp : b[i]? with
 | none => rw [hp] at a; cases a
 | some p =>
  rw [hp] at a
  simp only [fE, iA, Prod.mk.injEq] at a
  exact ⟨p, rfl, a.1, a.2⟩
theorem M4 {Kk : Value → World → Prop} (X : List (Nat × Obj)) {Y R : List (Nat × Obj)} {t e : TypeId} {m x : Operand} {mv z : Value} {x0 : γ} {lv : List (κ × Value)} {l : List (κ × γ)} {k : κ} (hk : ∀ {x y : κ}, beq x y = true ↔ x = y) (K : qz P kt kenc beq) (ht : P.underlying t = some (.map kt e)) (hz : ∀ w, (zeroValue e).run P w = .ok z w) (ad : Q z x0 []) (T : ST dd F w W μ (X ++ (R ++ Y))) (h : nV kenc Q mv lv l R) (hm : kV E m = mv) (hx : kV E x = kenc k) (hK : ∀ W' v st R' R1, ST dd F w W' μ (X ++ (R' ++ (R1 ++ Y))) → Q v ((mJ beq l k).getD x0) R1 → Jz beq kenc Q mv l k st R' → Kk (.tuple #[v, .int .i64 (st : Nat)]) W') : ov P E ⟨d, .mapEntry t m x, ty, pos, af, g⟩ W Kk := by
 obtain ⟨Rm, Rv, rfl, ⟨r, es, clock, rfl, rfl, s⟩, O⟩ := h
 have hb : W.heap[r]? = some (.map es clock) := (T.box r (.map es clock) (by simp)).1
 have h5 : (getObj r : Sem Obj).run P W = .ok (.map es clock) W := by simp [getObj, Sem.run, hb]
 have L := K.find k _ _ s.keys W
 rw [s.get k] at L
 have G := O.find (beq := beq) k
 have D : ∀ W' v, (Instr.mapEntry t (.map (some r)) (kenc k)).run P W = .ok v W' → (execOp (kV E) ⟨d, .mapEntry t m x, ty, pos, af, g⟩).run P W = .ok (.value v) W' := by
  intro W' v hr
  show (do pure (.value (← Instr.mapEntry t (kV E m) (kV E x))) : Sem Next).run P W = _
  rw [hm, hx]
  simp [hr]
 have u : ST dd F w W μ (X ++ (r, .map es clock) :: (Rv ++ Y)) := by simpa using T
 cases b : lv.findIdx? (fun p => beq k p.1) with
 | none =>
  rw [b] at L G
  have a := s.put (beq := beq) k z
  rw [b] at a
  refine .inl ⟨_, ChangeMaps.setBlock W r (.map (es.push { key := kenc k, val := z, born := clock }) (clock + 1)), D _ (.tuple #[z, .int .i64 (clock : Nat)]) ?_, hK _ z clock ((r, .map (es.push { key := kenc k, val := z, born := clock }) (clock + 1)) :: (Rv ++ [])) [] ?_ ?_ ?_⟩
  ·simp [Instr.mapEntry, aV ht, h5, K.check, L, zx hb, hz _, goInt]
  ·have := u.setBlock (.map (es.push { key := kenc k, val := z, born := clock }) (clock + 1))
   simpa using this
  ·rw [EK G.symm]; exact ad
  ·refine ⟨r, _, _, lv ++ [(k, z)], Rv, [], es.size, { key := kenc k, val := z, born := clock }, rfl, rfl, a, by simp, rfl, ?_, fun v x R1 hq => ?_⟩
   ·rw [jx, b]
    have aa := s.length
    simp [fY, hk, aa]
   ·rw [← wm b, ID (fun x => hk.2 rfl), wm b, wm G.symm]
    simpa using O.push k hq
 | some i =>
  rw [b] at L G
  obtain ⟨p, hp, ab⟩ := tz b
  obtain ⟨q, a8, U⟩ := tz G.symm
  have ag := hk.1 U
  obtain ⟨v, A, R1, B, g1, rfl, g3, g4⟩ := O.get i q.1 q.2 a8
  have a7 : p.2 = v := by rw [g1] at hp; cases hp; rfl
  have aa := s.length
  have ae : i < lv.length := (bM.1 hp).1
  obtain ⟨M, n⟩ : ∃ M, es[i]? = some M := ⟨es[i], Array.getElem?_eq_getElem (by omega)⟩
  obtain ⟨p', a6, I, J⟩ := s.val n
  rw [hp] at a6
  cases a6
  simp only [aA, hp, fE] at L
  have a := s.put (beq := beq) k v
  rw [b] at a
  have Z : ((es[i]?).map (·.key)).getD (kenc k) = kenc k := by
   rw [n]
   simp only [fE, ju, I]
   exact K.eq k p.1 ab
  have a1 : es.modify i (fun e => { e with key := kenc k }) = es.modify i (fun e => { e with key := kenc k, val := v }) := EN fun e he => by
   rw [n] at he; cases he
   rw [← a7, ← J]
  refine .inl ⟨_, ChangeMaps.setBlock W r (.map (es.modify i fun e => { e with key := kenc k, val := v }) clock), D _ (.tuple #[v, .int .i64 (M.born : Nat)]) ?_, hK _ v M.born ((r, .map (es.modify i fun e => { e with key := kenc k, val := v }) clock) :: (A ++ B)) R1 ?_ ?_ ?_⟩
  ·simp only [Instr.mapEntry, cK, aV ht, h5, K.check, L, bQ, Z, Instr.keyThatStays, K.bits, aN, dH]
   rw [zx hb, a1]
   simp [n, goInt, a7]
  ·have := u.setBlock (.map (es.modify i fun e => { e with key := kenc k, val := v }) clock)
   refine this.perm ?_
   simp only [aM, bY]
   refine cJ _ (List.Perm.cons _ (cJ _ ?_))
   rw [← aM, ← aM]
   exact ji _ fZ
  ·rw [D3 G.symm a8]; exact g3
  ·refine ⟨r, _, _, lv.set i (k, v), A, B, i, { M with key := kenc k, val := v }, rfl, rfl, a, ?_, rfl, ?_, fun v2 x2 R2 hq => ?_⟩
   ·rw [eU, aX rfl, n]; rfl
   ·rw [fC] at b ⊢
    obtain ⟨h1, s, O⟩ := b
    refine ⟨by simpa using h1, by simp [hk], fun j hj => ?_⟩
    rw [List.getElem_set_ne (by omega)]
    exact O j hj
   ·rw [← sh b, ID (fun x => hk.2 rfl), sh b, sh G.symm]
    exact g4 k v2 x2 R2 hq
theorem N8 {es : Array MapEntry} (h : es.toList.Pairwise (fun a b => a.born < b.born)) {i : Nat} {e : MapEntry} (he : es[i]? = some e) : es.findIdx? (fun a => (a.born : Int) == (e.born : Int)) = some i := by
 rw [Array.findIdx?_eq_some_iff_getElem]
 obtain ⟨g, d⟩ := dU.1 he
 refine ⟨g, by rw [d]; simp, fun j k => ?_⟩
 have := List.pairwise_iff_getElem.1 h j i (by simpa using Nat.lt_trans k g) (by simpa using g) k
 simp only [Array.getElem_toList] at this
 rw [d] at this
 simp
 omega
theorem KR {Kk : Value → World → Prop} (X : List (Nat × Obj)) {Y R R1 : List (Nat × Obj)} {t e : TypeId} {m s y : Operand} {Z u : Value} {z : γ} {l : List (κ × γ)} {k : κ} {st : Nat} (hk : ∀ {x y : κ}, beq x y = true ↔ x = y) (K : qz P kt kenc beq) (r : ST dd F w W μ (X ++ (R ++ (R1 ++ Y)))) (h : Jz beq kenc Q Z l k st R) (hm : kV E m = Z) (hs : kV E s = .int .i64 (st : Nat)) (hy : kV E y = u) (hq : Q u z R1) (hK : ∀ W' U R', ST dd F w W' μ (X ++ (R' ++ Y)) → nV kenc Q Z U (po beq l k z) R' → Kk undef W') : ov P E ⟨d, .entryStore t m s y, ty, pos, af, g⟩ W Kk := by
 obtain ⟨b, es, clock, lv, A, B, i, en, rfl, rfl, L, n, j, O, h3⟩ := h
 have hb : W.heap[b]? = some (.map es clock) := (r.box b (.map es clock) (by simp)).1
 have h5 : (getObj b : Sem Obj).run P W = .ok (.map es clock) W := by simp [getObj, Sem.run, hb]
 obtain ⟨p, hp, M⟩ := tz O
 obtain ⟨p', J, q, T⟩ := L.val n
 rw [hp] at J
 cases J
 have a := L.put (beq := beq) k u
 rw [O] at a
 have I : es.modify i (fun e => { e with val := u }) = es.modify i (fun e => { e with key := kenc k, val := u }) := EN fun e he => by
  rw [n] at he; cases he
  have D : en.key = kenc k := by rw [q]; exact K.eq k p.1 M
  rw [← D]
 have G := N8 L.born n
 rw [j] at G
 have v : ST dd F w W μ (X ++ (b, .map es clock) :: (A ++ (B ++ (R1 ++ Y)))) := by simpa using r
 refine .inr (.inl ⟨ChangeMaps.setBlock W b (.map (es.modify i fun e => { e with key := kenc k, val := u }) clock), ?_, hK _ (po beq lv k u) ((b, .map (es.modify i fun e => { e with key := kenc k, val := u }) clock) :: (A ++ (R1 ++ B))) ?_ ⟨[(b, .map (es.modify i fun e => { e with key := kenc k, val := u }) clock)], A ++ (R1 ++ B), rfl, ⟨b, _, _, rfl, rfl, ?_⟩, h3 u z R1 hq⟩⟩)
 ·show (do Instr.entryStore t (kV E m) (kV E s) (kV E y); pure .skip : Sem Next).run P W = _
  rw [hm, hs, hy]
  simp only [Instr.entryStore, cK, h5, bQ, asInt, asIntOf, dH, G]
  rw [zx hb, I]
  rfl
 ·have := v.setBlock (.map (es.modify i fun e => { e with key := kenc k, val := u }) clock)
  refine this.perm ?_
  simp only [aM, bY]
  refine cJ _ (List.Perm.cons _ (cJ _ ?_))
  rw [← aM, ← aM]
  exact ji _ fZ
 ·rw [sh O]; exact a
end
end Go.Proofs.YtklbhegeiijbjaaGreat
namespace Go.Proofs.YtklbhegeiijbjaaGreat
open Go.RowKit
variable {dd : Bool}
section
variable {κ γ : Type} {Q : Value → γ → List (Nat × Obj) → Prop} {beq : κ → κ → Bool} {kenc : κ → Value}
def nk (kenc : κ → Value) (Q : Value → γ → List (Nat × Obj) → Prop) (v : Value) (l : List (κ × γ)) (R : List (Nat × Obj)) : Prop := ∃ a, nV kenc Q v a l R
def sL (kenc : κ → Value) (Q : Value → γ → List (Nat × Obj) → Prop) (μ : lQ) (v : Value) (l : List (κ × γ)) : Prop := ∃ a R, nV kenc Q v a l R ∧ ∀ b o, (b, o) ∈ R → μ b = some o
theorem nk.at {v : Value} {l : List (κ × γ)} {R : List (Nat × Obj)} {μ : lQ} (h : nk kenc Q v l R) (a : ∀ b o, (b, o) ∈ R → μ b = some o) : sL kenc Q μ v l := let ⟨d, h⟩ := h; ⟨d, R, h, a⟩
theorem sL.mono {v : Value} {l : List (κ × γ)} {μ μ' : lQ} (h : sL kenc Q μ v l) (g : lu μ μ') : sL kenc Q μ' v l := let ⟨i, R, h, a⟩ := h; ⟨i, R, h, fun b o d => g _ _ (a b o d)⟩
theorem nV.form {v : Value} {a : List (κ × Value)} {l : List (κ × γ)} {R : List (Nat × Obj)} (h : nV kenc Q v a l R) : ∃ m, v = .map (some m) := let ⟨_, _, _, h, _⟩ := h; h.form
theorem nV.e {v : Value} {a : List (κ × Value)} {l : List (κ × γ)} {R : List (Nat × Obj)} (h : nV kenc Q v a l R) : nk kenc Q v l R := ⟨a, h⟩
theorem nk.form {v : Value} {l : List (κ × γ)} {R : List (Nat × Obj)} (h : nk kenc Q v l R) : ∃ m, v = .map (some m) := let ⟨_, h⟩ := h; h.form
theorem nk.new {v : Value} {R : List (Nat × Obj)} (h : nh (β := Value) kenc (fun x => x) v [] R) : nk kenc Q v [] R := ⟨[], R, [], (bG R).symm, h, rfl⟩
theorem nV.rowAt {α : Type} {e : TypeId} {enc : α → List Value} {n : Nat} {i : Value} {d : List (κ × Value)} {l : List (κ × List α)} {R : List (Nat × Obj)} (hk : ∀ {x y : κ}, beq x y = true → x = y) (h : nV kenc (lA e enc n) i d l R) (k : κ) :
  ∃ R1, lA e enc n (sG beq d k (.slice none 0 0)) ((mJ beq l k).getD []) R1 ∧ ∀ b o, (b, o) ∈ R1 → (b, o) ∈ R := by
 cases a : mJ beq l k with
 | none => refine ⟨[], ?_, fun b o h => by cases h⟩; rw [sG, h.MV a]; exact .inl ⟨rfl, rfl, rfl⟩
 | some x =>
  obtain ⟨v, A, R1, B, g1, rfl, g3, _⟩ := h.found hk a
  refine ⟨R1, ?_, fun b o g => by simp [g]⟩
  rw [sG, g1]; exact g3
theorem lA.Eo {α : Type} {e : TypeId} {enc : α → List Value} {k : Nat} {v : Value} {l : List α} {R : List (Nat × Obj)} (h : lA e enc k v l R) (hk : ∀ x, (enc x).length = k) : Sl (Pl enc) k (Df R) v l := by
 refine h.sl hk (fun b o a => ?_)
 rcases h with ⟨rfl, rfl, rfl⟩ | ⟨g, cap, d, rfl, rfl, _⟩
 ·cases a
 ·simp at a; obtain ⟨rfl, rfl⟩ := a; simp [Df]
end
theorem oD.hp (W : World) : oD (hp W) [] W := ⟨fun _ _ h => h, fun _ _ h => by cases h⟩
section
variable {P : Program} {W : World} {E : Nat → Value} {d : Option Nat} {ty : TypeId} {pos : String} {af : Array Edge} {g : Option (Nat × Bool)} {F : Nat → Prop} {w : World} {μ : lQ} {L : List (Nat × Obj)}
theorem HN {t k e : TypeId} (dd : Nat) (b : P.underlying t = some (.map k e)) (a : Option Nat) (W : World) : (Op.equalIn (dd + 1) t (.map a) (.map none)).run P W = .ok a.isNone W := by
 cases a <;> simp [Op.equalIn, aV b]
theorem Nj {a n k e : TypeId} {x y : Operand} {r : Option Nat} {b : Bool} (j : P.underlying a = some (.map k e)) (l : kV E x = .map r) (m : kV E y = .map none) (i : r.isNone = b) :
  nc P E ⟨d, .binOp .eql a x y n, ty, pos, af, g⟩ W (.bool b) W := by
 subst i
 show (do let r ← (do eqGuard .eql a x y (kV E x) (kV E y); binOp .eql a (kV E x) (kV E y)); pure (.value r) : Sem Next).run P W = _
 rw [l, m]
 have h := HN 9999 j r W
 simp [eqGuard, binOp, Op.equal, show Op.maxDepth = 9999 + 1 from rfl, h]
theorem Li {κ κ2 β : Type} {kenc : κ → Value} {kenc2 : κ2 → Value} {vf : β → Value} {beq : κ → κ → Bool} {b q kt e : TypeId} {x y : Operand} {p : Value} {a : List (κ × Value)} {l : List (κ × List (κ2 × β))} {R : List (Nat × Obj)} {k : κ} (hk : ∀ {x y : κ}, beq x y = true → x = y) (j : P.underlying b = some (.map kt e)) (h : nV kenc (nh kenc2 vf) p a l R) (m : kV E x = sG beq a k (.map none)) (n : kV E y = .map none) :
  nc P E ⟨d, .binOp .eql b x y q, ty, pos, af, g⟩ W (.bool (mJ beq l k).isNone) W := by
 obtain ⟨r, h1, i⟩ := h.isNil hk k
 exact Nj j (m.trans h1) n i
theorem DQ {κ γ : Type} {b : Value → World → Prop} {t : TypeId} (kenc : κ → Value) (Q : Value → γ → List (Nat × Obj) → Prop) (a : ST dd F w W μ L) (i : ∀ W' v R, ST dd F w W' μ (R ++ L) → nk kenc Q v [] R → b v W') : ov P E ⟨d, .makeMap t none, ty, pos, af, g⟩ W b :=
 II kenc (fun x : Value => x) a (fun W' v R h1 h => i W' v R h1 (nk.new h))
end
def rz {α : Type} (e : TypeId) (enc : α → List Value) (k : Nat) (v : Value) (l : List α) (R : List (Nat × Obj)) : Prop :=
 (v = .slice none 0 0 ∧ l = [] ∧ R = []) ∨
 ∃ g off cap a, v = .slice (some ⟨g, off, none⟩) l.length cap ∧ R = [(g, .cells a e (0, 0))] ∧ l.length ≤ cap ∧ cap ≤ maxLen ∧ off + cap * k ≤ a.size ∧ (a.toList.drop off).take (l.length * k) = (l.map enc).flatten
section
variable {α : Type} {e : TypeId} {enc : α → List Value} {k : Nat} {v : Value} {l : List α} {R : List (Nat × Obj)}
theorem rz.nil (e : TypeId) (enc : α → List Value) (k : Nat) : rz e enc k (.slice none 0 0) [] [] := .inl ⟨rfl, rfl, rfl⟩
theorem lA.TH (h : lA e enc k v l R) : rz e enc k v l R := by
 rcases h with h | ⟨g, cap, a, h1, b, d, i, m, j⟩
 ·exact .inl h
 ·exact .inr ⟨g, 0, cap, a, h1, b, d, i, by omega, by simpa using j⟩
theorem rz.len (h : rz e enc k v l R) : l.length ≤ 9223372036854775807 := by
 rcases h with ⟨rfl, rfl, rfl⟩ | ⟨g, off, cap, a, rfl, rfl, h1, b, _⟩
 ·simp
 ·unfold maxLen at b; omega
theorem rz.form (h : rz e enc k v l R) : ∃ A c, v = .slice A l.length c := by
 rcases h with ⟨rfl, rfl, rfl⟩ | ⟨g, off, cap, a, rfl, rfl, _⟩
 ·exact ⟨_, _, rfl⟩
 ·exact ⟨_, _, rfl⟩
theorem rz.Eo (h : rz e enc k v l R) (hk : ∀ x, (enc x).length = k) : Sl (Pl enc) k (Df R) v l := by
 rcases h with ⟨rfl, rfl, rfl⟩ | ⟨g, off, cap, a, rfl, rfl, h1, d, q, m⟩
 ·exact Sl.nil _ _ _
 ·refine ⟨_, cap, rfl, h1, d, fun _ => ⟨g, off, a, e, (0, 0), rfl, by simp [Df], fun i x n => ⟨enc x, hk x, rfl, fun j y p => ?_⟩⟩⟩
  have := xN hk l i x n j y p
  rw [← m] at this
  have b : i * k + j < l.length * k := by
   have := (bM.1 this).1
   simp at this; omega
  rw [eE b, dY] at this
  simpa [fI] using this
variable {P : Program} {W : World} {E : Nat → Value} {d : Option Nat} {ty : TypeId} {pos : String} {af : Array Edge} {g : Option (Nat × Bool)} {F : Nat → Prop} {w : World} {μ : lQ} {L : List (Nat × Obj)}
theorem PM {x : Operand} {t a : TypeId} (b : P.underlying t = some (.slice a)) (i : kV E x = v) (h : rz e enc k v l R) : nc P E ⟨d, .call ⟨.builtin .len, #[x], #[t]⟩, ty, pos, af, g⟩ W (.int .i64 l.length) W := by
 obtain ⟨A, c, rfl⟩ := h.form
 exact BK b i
theorem MO {t q : TypeId} {x n : Operand} {L : IntKind} {i : Int} (z : P.underlying t = some (.slice q)) (he : ∀ w, (sizeOf q).run P w = .ok k w) (A : kV E x = v) (s : kV E n = .int L i) (hk : ∀ x, (enc x).length = k) (h : rz e enc k v l R) (D : 0 ≤ i) (y : i ≤ l.length) :
  ∃ u, rz e enc k u (l.drop i.toNat) R ∧ ∀ W, nc P E ⟨d, .slice t x (some n) none none, ty, pos, af, g⟩ W u W := by
 rcases h with ⟨rfl, rfl, rfl⟩ | ⟨m, off, cap, b, rfl, rfl, h1, M, O, F⟩
 ·have : i = 0 := by simp at y; omega
  subst this
  refine ⟨.slice none 0 0, by simpa using rz.nil e enc k, fun W => ?_⟩
  show (do pure (.value (← Instr.sliceAt t (kV E x) (some (kV E n)) none none)) : Sem Next).run P W = _
  rw [A, s]
  simp [Instr.sliceAt, Instr.slice, Instr.sliceBounds, Instr.sliceBound, asIntOf, aV z, he W]
 ·refine ⟨.slice (some (if cap = i.toNat then ⟨m, off, none⟩ else (Addr.add ⟨m, off, none⟩ (i.toNat * k)))) (l.length - i.toNat) (cap - i.toNat), .inr ?_, fun W => ?_⟩
  ·have a : (l.drop i.toNat).length = l.length - i.toNat := by simp
   have j : (l.map enc).flatten.drop (i.toNat * k) = ((l.drop i.toNat).map enc).flatten := by
    have G : l = l.take i.toNat ++ l.drop i.toNat := (gC _ _).symm
    have I : ((l.take i.toNat).map enc).flatten.length = i.toNat * k := by rw [pL hk, cQ, dE (by omega)]
    conv => lhs; rw [G, cL, cT]
    rw [← I, List.drop_left]
   by_cases r : cap = i.toNat
   ·rw [aX r]
    have p : l.drop i.toNat = [] := List.drop_eq_nil_of_le (by omega)
    refine ⟨m, off, cap - i.toNat, b, by rw [p]; simp; omega, rfl, by rw [p]; simp, by omega, by have : (cap - i.toNat) * k ≤ cap * k := cI _ (by omega); omega, by rw [p]; simp⟩
   ·rw [bB r]
    refine ⟨m, off + i.toNat * k, cap - i.toNat, b, by rw [a, dG], rfl, by rw [a]; omega, by omega, ?_, ?_⟩
    ·have : i.toNat * k + (cap - i.toNat) * k = cap * k := by rw [← cP]; congr 1; omega
     omega
    ·rw [a, ← j, ← F, jf, List.drop_drop, Nat.sub_mul]
  ·show (do pure (.value (← Instr.sliceAt t (kV E x) (some (kV E n)) none none)) : Sem Next).run P W = _
   rw [A, s]
   have J : 0 ≤ i ∧ i ≤ (l.length : Int) := ⟨D, y⟩
   simp [Instr.sliceAt, Instr.slice, Instr.sliceBounds, Instr.sliceBound, asIntOf, aV z, he W, J]
   split <;> rfl
theorem Lm {K : Value → World → Prop} {t : TypeId} {a1 : Nat} {z vs : Value} {m r : List α} (X : List (Nat × Obj)) {Y : List (Nat × Obj)} {x y : Operand} {i : TypeInfo} (a6 : ST dd F w W μ (X ++ (R ++ Y))) (hk : ∀ x, (enc x).length = k) (aj : 0 < k) (h1 : ∀ x, ∀ u ∈ enc x, u.oneCell' = true) (ht : P.underlying t = some (.slice e)) (hi : P.info? e = some i) (hz : i.zero = some z) (aa : z.cells.size = k) (Z : i.size = k) (a7 : i.bytes = a1) (hx : kV E x = v) (hy : kV E y = vs) (hR : rz e enc k v l R) (hs : Sl (Pl enc) k (hp W) vs m) (hb : nG a1 l m = some r) (h : ∀ W' v' R', ST dd F w W' μ (X ++ (R' ++ Y)) → rz e enc k v' r R' → K v' W') : ov P E ⟨d, .call ⟨.builtin .append, #[x, y], #[t, t]⟩, ty, pos, af, g⟩ W K := by
 rcases hR with ⟨rfl, rfl, rfl⟩ | ⟨s, off, cap, p, rfl, rfl, h2, h3, h4, h5⟩
 ·exact J0 X a6 hk aj h1 ht hi hz aa Z a7 hx hy (lA.nil e enc k) hs hb (fun W' v' R' a b => h W' v' R' a b.TH)
 unfold nG at hb
 split at hb
 case isFalse => cases hb
 rename_i U
 cases hb
 have Q : ∀ (V : Value) (W' : World), (Builtin.append_ #[t, t] ty #[.slice (some ⟨s, off, none⟩) l.length cap, vs]).run P W = .ok V W' → (execOp (kV E) ⟨d, .call ⟨.builtin .append, #[x, y], #[t, t]⟩, ty, pos, af, g⟩).run P W = .ok (.value V) W' := by
  intro V W' hV
  show (do let d ← resolve (kV E) ⟨.builtin .append, #[x, y], #[t, t]⟩ ty; invoke d.target d.args : Sem Next).run P W = _
  simp [resolve, invoke, builtin, hx, hy, hV]
 obtain ⟨A, c, rfl, an, ao, ag⟩ := hs
 have J : ST dd F w W μ (X ++ (s, .cells p e (0, 0)) :: Y) := by simpa using a6
 have hg : W.heap[s]? = some (.cells p e (0, 0)) := (J.box s _ (by simp)).1
 have I := pL hk l
 have O : ∀ u ∈ (m.map enc).flatten, u.oneCell' = true := by
  intro u hu
  obtain ⟨ys, al, ak⟩ := jt.1 hu
  obtain ⟨x, _, rfl⟩ := bN.1 al
  exact h1 x u ak
 have G : Src P i.size t (.slice A m.length c) m.length ((m.map enc).flatten) W := by
  rw [Z]
  rcases fG m.length with h0 | h0
  ·have hm : m = [] := aU h0
   subst hm
   cases A with
   | none => exact Src.ofNil W ht c
   | some ad => exact Src.ofSlice W ht ad 0 c [] (by simp) (fun j u hu => by simp at hu) (fun u hu => by cases hu)
  ·obtain ⟨b, o, cs, T, fr, rfl, h6, h7⟩ := ag h0
   refine Src.ofSlice W ht _ _ c _ (pL hk m) (fun j u hu => ?_) O
   obtain ⟨i, x, q, h8, h9, rfl⟩ := GK hk m j u hu
   obtain ⟨ys, _, ab, ae⟩ := h7 i x h8
   cases ab
   rw [dG, iE W b (o + (i * k + q)) cs T fr h6, ← fI]
   exact ae q u h9
 have n := pL hk m
 have M : ((l ++ m).map enc).flatten = (l.map enc).flatten ++ (m.map enc).flatten := by simp
 generalize (m.map enc).flatten = fm at G O n M
 subst Z
 have ap : l.length * i.size ≤ cap * i.size := cI _ h2
 by_cases D : l.length + m.length ≤ cap
 ·have aq : l.length * i.size + m.length * i.size ≤ cap * i.size := by rw [← cP]; exact cI _ D
  have a8 := jR (P := P) s (off + l.length * i.size) e fm 0 p W hg (by rw [n]; omega) O
  have L : (Builtin.append_ #[t, t] ty #[.slice (some ⟨s, off, none⟩) l.length cap, .slice A m.length c]).run P W = .ok (.slice (some ⟨s, off, none⟩) (l.length + m.length) cap) (W.setRow s (p.toList.take (off + l.length * i.size) ++ fm ++ p.toList.drop (off + l.length * i.size + fm.length)).toArray) := by
   simp [Builtin.append_, aV ht, sizeOf, typeInfo, hi, G.len, D, G.cells, dG]
   simp only [jh] at a8
   rw [a8]
   simp
  refine .inl ⟨_, _, Q _ _ L, h _ _ [(s, _)] (by simpa using J.store _) (.inr ⟨s, off, cap, _, by rw [aF], rfl, by simpa using D, h3, ?_, ?_⟩)⟩
  ·simp only [dV, aF, cQ, eP, dJ, n]
   rw [dE (by omega)]
   omega
  ·have hA : (p.toList.take (off + l.length * i.size)).length = off + l.length * i.size := by simp; omega
   show ((p.toList.take (off + l.length * i.size) ++ (fm ++ p.toList.drop (off + l.length * i.size + fm.length))).drop off).take ((l ++ m).length * i.size) = _
   rw [M, List.drop_append, jf, hA, show off - (off + l.length * i.size) = 0 by omega, List.drop_zero, show off + l.length * i.size - off = l.length * i.size by omega, h5]
   rw [aF, cP, fV, fV, I, n, dN (by rw [I]; omega), show l.length * i.size + m.length * i.size - l.length * i.size = m.length * i.size by omega, dN (by rw [n]; omega)]
   simp
 ·have hold : (Builtin.firstCells i.size l.length (.slice (some ⟨s, off, none⟩) l.length cap)).run P W.drew = .ok ((l.map enc).flatten).toArray W.drew := by
   refine run_firstCells_some W.drew i.size l.length ⟨s, off, none⟩ l.length cap _ I (fun j u hu => ?_)
   rw [dG]
   show W.cell? ⟨s, off + j, none⟩ = some u
   rw [iE W s (off + j) p e (0, 0) hg]
   rw [← h5] at hu
   have hj : j < l.length * i.size := by have := (bM.1 hu).1; simp at this; omega
   rw [eE hj, dY] at hu
   simpa using hu
  have hlen : (l ++ m).length = l.length + m.length := aF
  have ai := grownCap_ge W (l.length + m.length) cap e
  have ah := grownCap_le_maxLen W (l.length + m.length) cap e U.2
  have L := run_append_grow_src (P := P) W t t ty e i z ht hi hz (some ⟨s, off, none⟩) l.length cap ((l.map enc).flatten) hold _ m.length _ G (by omega) (by have := U.2; unfold maxLen at this; omega) (growslice_fits (by omega) (by rw [a7]; exact U.1))
  have h6 := J.drew.alloc (.cells (((l.map enc).flatten ++ fm).toArray ++ Builtin.zeroCells z.cells (grownCap W (l.length + m.length) cap e - (l.length + m.length))) e (0, 0))
  have h7 := (ST.drop (A := (W.drew.heap.size, _) :: X) h6).perm (L' := X ++ ([(W.heap.size, _)] ++ Y)) (by simpa using (gO (a := (W.heap.size, _)) (l₁ := X) (l₂ := Y)).symm)
  refine .inl ⟨_, _, Q _ _ L, h _ _ _ h7 (lA.TH (.inr ⟨W.heap.size, grownCap W (l.length + m.length) cap e, _, by rw [hlen], rfl, by rw [hlen]; exact ai, ah, ?_, ?_⟩))⟩
  ·rw [Array.size_append, size_zeroCells, aa]
   simp only [dV, aF, I, n]
   rw [← cP, ← cP]
   congr 1
   omega
  ·rw [Array.toList_append, List.toList_toArray, hlen, M, List.take_append_of_le_length (by simp only [aF, I, n]; rw [cP]; exact aZ _), dN (by simp only [aF, I, n]; rw [cP]; exact aZ _)]
end
end Go.Proofs.YtklbhegeiijbjaaGreat
namespace Go.Proofs.YtklbhegeiijbjaaGreat
open Go.RowKit
section
variable {P : Program} {ops : Array Oper} {Q : Exit → Act → World → Prop} {S : Array Bool → World → Prop}
def yL (ops : Array Oper) (l : Array Bool) : Prop := ∀ j o, ops[j]? = some o → l.getD j true = true → ∀ e ∈ o.after, Region.binds .any e = true → l.getD e.on true = true
def Ho (ops : Array Oper) : Nat → List Nat → Bool
 | _, [] => true
 | j, k :: r => (match ops[j]? with | some o => o.after.any (fun e => Region.binds .any e && e.on == k) | none => false) && Ho ops k r
theorem Hb {l : Array Bool} (d : yL ops l) : ∀ (r : List Nat) (j i : Nat), Ho ops j r = true → (j :: r).getLast? = some i → l.getD j true = true → l.getD i true = true
 | [], j, i, _, h, a => by simp at h; subst h; exact a
 | k :: r, j, i, h, m, a => by
  simp only [Ho, bJ] at h
  obtain ⟨h1, g⟩ := h
  cases b : ops[j]? with
  | none => rw [b] at h1; cases h1
  | some o =>
   rw [b] at h1
   simp only [Array.any_eq_true] at h1
   obtain ⟨n, p, h1⟩ := h1
   simp only [bJ, iY] at h1
   have := d j o b a o.after[n] (Array.getElem_mem p) h1.1
   rw [h1.2] at this
   exact Hb d r k i g (by simpa [List.getLast?_cons_cons] using m) this
def GF (ops : Array Oper) (i : Nat) (l : Array Bool) : Prop := yL ops l ∧ l.getD i true = false
theorem GF.Er {l : Array Bool} {i : Nat} (h : GF ops i l) (j : Nat) (r : List Nat) (a : Ho ops j r = true) (d : (j :: r).getLast? = some i) : l.getD j true = false := by
 cases b : l.getD j true with
 | false => rfl
 | true => have := Hb h.1 r j i a d b; rw [h.2] at this; cases this
theorem yL.start (n : Nat) (h : n = ops.size) : yL ops (Array.replicate n false) := by
 subst h
 intro j o d b
 have a : j < ops.size := (dU.1 d).1
 simp [a] at b
theorem yL.set {l : Array Bool} {i : Nat} (h : yL ops l) (r : i ∈ Region.ready .any ops l) : yL ops (l.setIfInBounds i true) := by
 intro j o q p e he n
 have up : ∀ {k : Nat}, l.getD k true = true → (l.setIfInBounds i true).getD k true = true := fun {k} hk => by
  by_cases d : i = k
  ·subst d
   by_cases m : i < l.size
   ·simp [m]
   ·simp [m]
  ·rw [kv true d]; exact hk
 by_cases b : i = j
 ·subst b
  obtain ⟨_, s, g, a⟩ := kA.1 r
  rw [q] at g
  cases g
  refine up ?_
  have := a e he n
  by_cases m : e.on < l.size
  ·simp [m] at this ⊢; exact this
  ·simp [m]
 ·rw [kv true b] at p
  exact up (h j o q p e he n)
def Dp (P : Program) (ops : Array Oper) (S : Array Bool → World → Prop) (i : Nat) (o : Oper) (v : Value) (a : Act) : Prop :=
 (Region.wanted o (yielded ops a.tmps) = true ∧ ∀ l w, GF ops i l → S l w → (execOp a.eval o).run P w = .ok (.value v) w) ∨
 (Region.wanted o (yielded ops a.tmps) = false ∧ v = undef)
theorem Dp.TL {i : Nat} {o : Oper} {v : Value} {a : Act} {l : Array Bool} (h : Dp P ops S i o v a) (hp : GF ops i l) : YieldsIf P ops (S l) o v a :=
 h.imp (fun ⟨h1, b⟩ => ⟨h1, fun w hw => b l w hp hw⟩) id
def Mo (P : Program) (ops : Array Oper) (Q : Exit → Act → World → Prop) (S : Array Bool → World → Prop) : Nat → Array Bool → Act → World → Prop
 | 0, l, a, w => Region.ready .any ops l = [] ∧ Q .normal a w
 | n + 1, l, a, w => (Region.ready .any ops l = [] → Q .normal a w) ∧
  ∀ i ∈ Region.ready .any ops l, wpOp P ops Q i (fun d b => S (l.setIfInBounds i true) b ∧ Mo P ops Q S n (l.setIfInBounds i true) d b) a w
theorem Lw : ∀ (n : Nat) (l : Array Bool) (a : Act) (w : World), Mo P ops Q S n l a w → wpAny P .any ops Q n l a w
 | 0, _, _, _, h => h
 | n + 1, _, _, _, h => ⟨h.1, fun i g => wpOp_mono (fun b j d => Lw n _ b j d.2) (h.2 i g)⟩
theorem OH {i j : Nat} {d q : Oper} {v : Value} (u : ops[j]? = some q) (m : d.apart ops q = true) (n : ∀ cs b, d.op ≠ .select cs b) (p : ∀ cs b, q.op ≠ .select cs b) (t : ∀ c a w, Q (.panic c) (a.put d.dst v) w → Q (.panic c) a w) {K : Act → World → Prop} {a : Act} {w : World} (x : Dp P ops S i d v a) (h : wpOp P ops Q j K (a.put d.dst v) w) :
  wpOp P ops Q j (fun g s => Dp P ops S i d v g ∧ K (g.put d.dst v) s) a w := by
 have h1 : YieldsIf P ops (fun w => ∃ l, GF ops i l ∧ S l w) d v a := x.imp (fun ⟨h1, k⟩ => ⟨h1, fun w ⟨l, hp, hw⟩ => k l w hp hw⟩) id
 refine wpOp_mono (fun g s r => ⟨r.1.imp (fun ⟨h1, k⟩ => ⟨h1, fun l w hp hw => k w ⟨l, hp, hw⟩⟩) id, r.2⟩) (wpOp_putIf (S := fun w => ∃ l, GF ops i l ∧ S l w) u m n p t h1 h)
theorem I0 {i : Nat} {x : Oper} {v : Value} (R : ops[i]? = some x) (s : ∀ (j : Nat) (o : Oper) cs b, ops[j]? = some o → o.op ≠ .select cs b) (hQ : ∀ c a w, Q (.panic c) (a.put x.dst v) w → Q (.panic c) a w) (hm : ∀ l w, S (l.setIfInBounds i true) w → S l w) :
  ∀ (n : Nat) (l : Array Bool) (a : Act) (w : World), (∀ j y, ops[j]? = some y → j ≠ i → l.getD j true = false → (∀ e ∈ y.after, Region.binds .any e = true → e.on ≠ i) → x.apart ops y = true) →
   yL ops l → i ∈ Region.ready .any ops l → Dp P ops S i x v a → S (l.setIfInBounds i true) w → Mo P ops Q S n (l.setIfInBounds i true) (a.put x.dst v) w → Mo P ops Q S (n + 1) l a w := by
 intro n
 induction n with
 | zero =>
  intro l a w _ I q J z H
  refine ⟨fun h => (by rw [h] at q; cases q), fun j D => ?_⟩
  by_cases d : j = i
  ·subst d
   exact (J.TL ⟨I, (kA.1 q).1⟩).wpOp R (hm l w z) ⟨z, H⟩
  ·have := ready_mono D d
   rw [H.1] at this
   cases this
 | succ n ih =>
  intro l a w m I q J z H
  refine ⟨fun h => (by rw [h] at q; cases q), fun j D => ?_⟩
  by_cases d : j = i
  ·subst d
   exact (J.TL ⟨I, (kA.1 q).1⟩).wpOp R (hm l w z) ⟨z, H⟩
  have h1 := H.2 j (ready_mono D d)
  obtain ⟨r, y, u, A⟩ := kA.1 D
  have F : ∀ e ∈ y.after, Region.binds .any e = true → e.on ≠ i := fun e he hb O => by
   have t := A e he hb
   have Y := (kA.1 q).1
   rw [O] at t
   rcases Nat.lt_or_ge i l.size with L | L
   ·simp [L] at Y t; rw [Y] at t; cases t
   ·simp [Array.getElem?_eq_none L] at t
  have t := OH u (m j y u d r F) (fun cs b => s i x cs b R) (fun cs b => s j y cs b u) hQ J h1
  have p : ∀ k ok, ops[k]? = some ok → k ≠ i → (l.setIfInBounds j true).getD k true = false → (∀ e ∈ ok.after, Region.binds .any e = true → e.on ≠ i) → x.apart ops ok = true := fun k ok hk T G U => by
   refine m k ok hk T ?_ U
   by_cases E : j = k
   ·subst E; exact r
   ·rw [kv true E] at G; exact G
  have g : (l.setIfInBounds i true).setIfInBounds j true = (l.setIfInBounds j true).setIfInBounds i true := Array.setIfInBounds_comm _ _ (Ne.symm d)
  refine wpOp_mono (fun a' W M => ?_) t
  have Z : S ((l.setIfInBounds j true).setIfInBounds i true) W := by rw [← g]; exact M.2.1
  refine ⟨hm _ W Z, ih (l.setIfInBounds j true) a' W p (I.set D) (ready_mono q (Ne.symm d)) M.1 Z ?_⟩
  rw [← g]
  exact M.2.2
end
def PX (P : Program) (n : Nat) (ops : Array Oper) (Q : qK) (S : Array Bool → World → Prop) (fuel : Nat) (listed : Array Bool) (E : Nat → Value) (W : World) : Prop :=
 yL ops listed → ∀ a, Ag n a E → Mo P ops (lift n Q) S fuel listed a W
section
variable {P : Program} {n : Nat} {Q : qK} {E : Nat → Value} {W : World} {ops : Array Oper} {S : Array Bool → World → Prop} {fuel : Nat} {listed : Array Bool}
theorem Kn {id : Nat} {l : List Oper} (S : Array Bool → World → Prop) (hm : P.follows .mixedOrders = true) (h : PX P n l.toArray Q S l.length (Array.replicate l.length false) E W.drew) : CW P n (.region id l.toArray true) Q E W := fun a ha =>
 wp_region_any hm (Lw _ _ _ _ (h (yL.start _ (by simp)) a ha))
def CG (ops : Array Oper) (listed : Array Bool) (i : Nat) : Bool := Region.noSelect ops && Region.free .any ops listed i && (Region.ready .any ops listed).contains i
theorem mz {o : Oper} {dd : Nat} {v : Value} (i : Nat) (g : ops[i]? = some o) (hk : CG ops listed i = true) (hw : ul n ops E o) (m : o.dst = some dd) (p : dd < n) (hm : ∀ l w, S (l.setIfInBounds i true) w → S l w) (k : S (listed.setIfInBounds i true) W) (q : ∀ l W, GF ops i l → S l W → nc P E o W v W) (h : PX P n ops Q S fuel (listed.setIfInBounds i true) (oI E dd v) W) : PX P n ops Q S (fuel + 1) listed E W := fun d a ha => by
 simp only [CG, bJ] at hk
 have j : i ∈ Region.ready .any ops listed := by simpa using hk.2
 exact I0 g (Region.noSelect_spec hk.1.1) (fun _ _ _ h => h) hm fuel listed a W (Region.free_spec g hk.1.2) d j (.inl ⟨hw.of ha, fun l w hp b => by rw [ha.eval]; exact q l w hp b⟩) k (by rw [m]; exact h (d.set j) _ (ha.put p v))
theorem rX {A : Value → Prop} {o : Oper} {dd : Nat} (i : Nat) (g : ops[i]? = some o) (hk : CG ops listed i = true) (hw : ul n ops E o) (d : o.dst = some dd) (j : dd < n) (hm : ∀ l w, S (l.setIfInBounds i true) w → S l w) (b : S (listed.setIfInBounds i true) W) (k : ∃ p, A p ∧ ∀ W, nc P E o W p W) (h : ∀ p, A p → PX P n ops Q S fuel (listed.setIfInBounds i true) (oI E dd p) W) : PX P n ops Q S (fuel + 1) listed E W := by
 obtain ⟨p, h1, a⟩ := k
 exact mz i g hk hw d j hm b (fun _ W _ _ => a W) (h p h1)
theorem LZ {o : Oper} {dd : Nat} (i : Nat) (d : ops[i]? = some o) (hk : CG ops listed i = true) (hw : ∀ a, Ag n a E → Region.wanted o (yielded ops a.tmps) = false) (k : o.dst = some dd) (m : dd < n) (hm : ∀ l w, S (l.setIfInBounds i true) w → S l w) (j : S (listed.setIfInBounds i true) W) (h : PX P n ops Q S fuel (listed.setIfInBounds i true) (oI E dd undef) W) : PX P n ops Q S (fuel + 1) listed E W := fun b a ha => by
 simp only [CG, bJ] at hk
 have g : i ∈ Region.ready .any ops listed := by simpa using hk.2
 exact I0 d (Region.noSelect_spec hk.1.1) (fun _ _ _ h => h) hm fuel listed a W (Region.free_spec d hk.1.2) b g (.inr ⟨hw a ha, rfl⟩) j (by rw [k]; exact h (b.set g) _ (ha.put m _))
theorem Tt {o : Oper} {dd j t : Nat} {want : Bool} (i : Nat) (m : ops[i]? = some o) (hk : CG ops listed i = true) (k : o.guard = some (j, want)) (p : (ops[j]?).bind (·.dst) = some t) (r : t < n) (b : E t = .bool (!want)) (g : o.dst = some dd) (q : dd < n) (hm : ∀ l w, S (l.setIfInBounds i true) w → S l w) (d : S (listed.setIfInBounds i true) W) (h : PX P n ops Q S fuel (listed.setIfInBounds i true) (oI E dd undef) W) : PX P n ops Q S (fuel + 1) listed E W :=
 LZ i m hk (fun a ha => by have s := ha.yield p r b; simp [Region.wanted, k, s]) g q hm d h
theorem RM {o : Oper} {dd j t : Nat} {want : Bool} (i : Nat) (m : ops[i]? = some o) (hk : CG ops listed i = true) (k : o.guard = some (j, want)) (p : (ops[j]?).bind (·.dst) = some t) (r : t < n) (b : E t = undef) (g : o.dst = some dd) (q : dd < n) (hm : ∀ l w, S (l.setIfInBounds i true) w → S l w) (d : S (listed.setIfInBounds i true) W) (h : PX P n ops Q S fuel (listed.setIfInBounds i true) (oI E dd undef) W) : PX P n ops Q S (fuel + 1) listed E W :=
 LZ i m hk (fun a ha => by have s := ha.G3 p r b; simp [Region.wanted, k, s]) g q hm d h
theorem MQ {o : Oper} {dd : Nat} (i : Nat) (s : ops[i]? = some o) (g : Region.ready .any ops listed = [i]) (hw : ul n ops E o) (l : o.dst = some dd) (m : dd < n) (h : ov P E o W fun v W' => S (listed.setIfInBounds i true) W' ∧ PX P n ops Q S fuel (listed.setIfInBounds i true) (oI E dd v) W') : PX P n ops Q S (fuel + 1) listed E W := fun k a ha => by
 have b : i ∈ Region.ready .any ops listed := by rw [g]; simp
 refine ⟨fun r => (by rw [r] at g; cases g), fun j p => ?_⟩
 rw [g] at p
 obtain rfl := cM.1 p
 unfold wpOp
 simp only [s]
 rw [aX (hw.of ha)]
 refine .inl ?_
 unfold Oper.wp
 rw [ha.eval]
 rcases h with ⟨v, W', h1, d⟩ | ⟨W', h1, d⟩ | ⟨f, args, h1, d⟩
 ·rw [h1, iT]; exact ⟨d.1, by rw [l]; exact d.2 (k.set b) _ (ha.put m v)⟩
 ·rw [h1, je]; exact ⟨d.1, by rw [l]; exact d.2 (k.set b) _ (ha.put m _)⟩
 ·rw [h1, iU]
  refine dZ d ?_
  rintro e t ⟨v, rfl, q⟩
  exact ⟨q.1, by simp only [l]; exact q.2 (k.set b) _ (ha.put m v)⟩
theorem SZ {o : Oper} (i : Nat) (r : ops[i]? = some o) (g : Region.ready .any ops listed = [i]) (hw : ul n ops E o) (l : o.dst = none) (h : ov P E o W fun _ W' => S (listed.setIfInBounds i true) W' ∧ PX P n ops Q S fuel (listed.setIfInBounds i true) E W') : PX P n ops Q S (fuel + 1) listed E W := fun k a ha => by
 have b : i ∈ Region.ready .any ops listed := by rw [g]; simp
 refine ⟨fun q => (by rw [q] at g; cases g), fun j m => ?_⟩
 rw [g] at m
 obtain rfl := cM.1 m
 unfold wpOp
 simp only [r]
 rw [aX (hw.of ha)]
 refine .inl ?_
 unfold Oper.wp
 rw [ha.eval]
 rcases h with ⟨v, W', h1, d⟩ | ⟨W', h1, d⟩ | ⟨f, args, h1, d⟩
 ·rw [h1, iT, l]; exact ⟨d.1, d.2 (k.set b) _ (ha.Aq _)⟩
 ·rw [h1, je, l]; exact ⟨d.1, d.2 (k.set b) _ (ha.Aq _)⟩
 ·rw [h1, iU]
  refine dZ d ?_
  rintro e s ⟨v, rfl, p⟩
  simp only [l]
  exact ⟨p.1, p.2 (k.set b) _ (ha.Aq _)⟩
theorem mu (d : Region.ready .any ops listed = []) (h : Q .normal E W) : PX P n ops Q S fuel listed E W := fun _ a ha => by
 cases fuel with
 | zero => exact ⟨d, E, ha, h⟩
 | succ f => exact ⟨fun _ => ⟨E, ha, h⟩, fun i b => by rw [d] at b; cases b⟩
theorem AV {p : Prop} {b : Bool} (a : b = true) (h : b = false) : p := by rw [a] at h; cases h
theorem nu {a : Array Bool} (b : listed = a) (h : PX P n ops Q S fuel a E W) : PX P n ops Q S fuel listed E W := by rw [b]; exact h
theorem OP {E : Nat → Value} {a b : Nat} {x y : Value} (h : a ≠ b) : oI (oI E a x) b y = oI (oI E b y) a x := by
 funext t
 simp only [oI]
 by_cases h1 : t = a
 ·subst h1; simp [h]
 ·by_cases d : t = b
  ·subst d; simp [h1]
  ·simp [h1, d]
theorem AW {o r : Oper} {d s : Nat} (i j : Nat) (G : ops[i]? = some o) (I : ops[j]? = some r) (p : Region.ready .any ops listed = [i, j]) (hw : ul n ops E o) (x : ul n ops E r) (l : o.dst = some d) (u : r.dst = some s) (m : d < n) (w : s < n) (h : ov P E o W fun v W' => S (listed.setIfInBounds i true) W' ∧ PX P n ops Q S fuel (listed.setIfInBounds i true) (oI E d v) W') (D : ov P E r W fun v W' => S (listed.setIfInBounds j true) W' ∧ PX P n ops Q S fuel (listed.setIfInBounds j true) (oI E s v) W') : PX P n ops Q S (fuel + 1) listed E W := fun t a ha => by
 have key : ∀ (k : Nat) (q : Oper) (e : Nat), ops[k]? = some q → k ∈ Region.ready .any ops listed → ul n ops E q → q.dst = some e → e < n → (ov P E q W fun v W' => S (listed.setIfInBounds k true) W' ∧ PX P n ops Q S fuel (listed.setIfInBounds k true) (oI E e v) W') →
   wpOp P ops (lift n Q) k (fun A y => S (listed.setIfInBounds k true) y ∧ Mo P ops (lift n Q) S fuel (listed.setIfInBounds k true) A y) a W := by
  intro k q e hk b hw l m h
  unfold wpOp
  simp only [hk]
  rw [aX (hw.of ha)]
  refine .inl ?_
  unfold Oper.wp
  rw [ha.eval]
  rcases h with ⟨v, W', h1, g⟩ | ⟨W', h1, g⟩ | ⟨f, args, h1, g⟩
  ·rw [h1, iT]; exact ⟨g.1, by rw [l]; exact g.2 (t.set b) _ (ha.put m v)⟩
  ·rw [h1, je]; exact ⟨g.1, by rw [l]; exact g.2 (t.set b) _ (ha.put m _)⟩
  ·rw [h1, iU]
   refine dZ g ?_
   rintro e y ⟨v, rfl, z⟩
   exact ⟨z.1, by simp only [l]; exact z.2 (t.set b) _ (ha.put m v)⟩
 refine ⟨fun F => (by rw [F] at p; cases p), fun k hk => ?_⟩
 rw [p] at hk
 rcases aQ.1 hk with rfl | hk
 ·exact key _ o d G (by rw [p]; simp) hw l m h
 ·obtain rfl := cM.1 hk
  exact key _ r s I (by rw [p]; simp) x u w D
theorem NK {dd : Bool} {F : Nat → Prop} {w : World} {μ : lQ} {L : List (Nat × Obj)} {t y ty A : TypeId} {p Z : String} {f R : Array Edge} {z O : Value} {d l : Nat} (i j : Nat) (G : ops[i]? = some ⟨some d, .alloc t, ty, p, f, none⟩) (I : ops[j]? = some ⟨some l, .alloc y, A, Z, R, none⟩) (Y : Region.ready .any ops listed = [i, j]) (v : Region.ready .any ops (listed.setIfInBounds i true) = [j]) (x : Region.ready .any ops (listed.setIfInBounds j true) = [i]) (J : d < n) (q : l < n) (u : Nat.beq d l = false) (s : Nat.beq i j = false) (m : ST dd F w W μ L) (M : ∀ w, (zeroValue t).run P w = .ok z w) (r : ∀ w, (zeroValue y).run P w = .ok O w) (h1 : ∀ W', oD μ L W' → S (listed.setIfInBounds i true) W') (T : ∀ W', oD μ L W' → S (listed.setIfInBounds j true) W') (D : ∀ W', oD μ L W' → S ((listed.setIfInBounds i true).setIfInBounds j true) W') (h : ∀ W' b c, ST dd F w W' μ ((b, .cells z.cells t (0, 0)) :: (c, .cells O.cells y (0, 0)) :: L) → PX P n ops Q S fuel ((listed.setIfInBounds i true).setIfInBounds j true) (oI (oI E d (.pointer (some ⟨b, 0, none⟩))) l (.pointer (some ⟨c, 0, none⟩))) W') :
  PX P n ops Q S (fuel + 1 + 1) listed E W := by
 have k : (listed.setIfInBounds j true).setIfInBounds i true = (listed.setIfInBounds i true).setIfInBounds j true := Array.setIfInBounds_comm _ _ (fun e => by subst e; simp at s)
 have U : d ≠ l := fun e => by subst e; simp at u
 refine AW i j G I Y (.inl rfl) (.inl rfl) rfl rfl J q (lG m M (fun W1 b a => ⟨h1 _ (a.has.sub (lu.refl _) fun _ hp => .tail _ hp), ?_⟩)) (lG m r (fun W1 c a => ⟨T _ (a.has.sub (lu.refl _) fun _ hp => .tail _ hp), ?_⟩))
 ·refine MQ j I v (.inl rfl) rfl q (lG a r (fun W2 c g => ⟨D _ (g.has.sub (lu.refl _) fun _ hp => .tail _ (.tail _ hp)), ?_⟩))
  exact h W2 b c (g.perm (List.Perm.swap _ _ _))
 ·refine MQ i G x (.inl rfl) rfl J (lG a M (fun W2 b g => ⟨?_, ?_⟩))
  ·rw [k]; exact D _ (g.has.sub (lu.refl _) fun _ hp => .tail _ (.tail _ hp))
  ·rw [k, ← OP U]; exact h W2 b c g
theorem mV {l : Array Bool} {i j : Nat} {A : Prop} (a : Nat.beq i j = false) (h : (l.setIfInBounds i true).getD j true = false → A) : l.getD j true = false → A := fun b => h (by
 rw [kv true (fun e => by subst e; simp at a)]; exact b)
end
theorem BL.at {α : Type} {e : TypeId} {enc : α → List Value} {k : Nat} {v : Value} {l : List α} {R : List (Nat × Obj)} (h : lA e enc k v l R) (hk : ∀ x, (enc x).length = k) {p : Value} {i : Nat} (hp : BL R k p i) {x : α} (g : l[i]? = some x) : At (Df R) p (enc x) := by
 obtain ⟨b, a, cap, rfl, rfl, _, _, _, _, rfl, d⟩ := BP h hk hp g
 exact ⟨b, i * k, a, e, (0, 0), rfl, by simp [Df], d⟩
theorem xt.form {κ β : Type} {kenc : κ → Value} {vf : β → Value} {μ : lQ} {v : Value} {l : List (κ × β)} (h : xt kenc vf μ v l) : ∃ r, v = .map r := by
 rcases h with ⟨h, _⟩ | ⟨m, es, clock, h, _⟩
 ·exact ⟨_, h⟩
 ·exact ⟨_, h⟩
noncomputable def G2 {β : Type} (l : List (ByteArray × β)) : Option (List ByteArray) :=
 open Classical in if (l.map (·.1)).Nodup ∧ (∀ p ∈ l, p.1.size ≤ maxLen) ∧ l.length * 16 ≤ 140737488355328 then some (vZ (l.map (·.1))) else none
def Oo {κ κ2 β α : Type} (a : Nat) (mk : κ → κ2 → α) (l : List (κ × List (κ2 × β))) : Option (List α) :=
 if (l.flatMap (fun p => p.2.map (fun q => mk p.1 q.1))).length * a ≤ 140737488355328 ∧ (l.flatMap (fun p => p.2.map (fun q => mk p.1 q.1))).length ≤ maxLen then some (l.flatMap (fun p => p.2.map (fun q => mk p.1 q.1))) else none
end Go.Proofs.YtklbhegeiijbjaaGreat
namespace Go.Proofs.YtklbhegeiijbjaaGreat
open Go.RowKit
section
variable {P : Program} {n : Nat} {Q : qK} {E : Nat → Value} {W : World} {ops : Array Oper} {rest : List Oper}
variable {dd : Bool} {α : Type} {enc : α → List Value} {k : Nat} {μ : lQ} {v : Value}
variable {d : Option Nat} {ty : TypeId} {pos : String} {af : Array Edge} {g : Option (Nat × Bool)} {F : Nat → Prop} {w : World} {L : List (Nat × Obj)}
theorem Ot {x y : Operand} {ats : Array TypeId} {k : IntKind} {a b : Int} (h : kV E x = .int k a) (i : kV E y = .int k b) :
  nc P E ⟨d, .call ⟨.builtin .max, #[x, y], ats⟩, ty, pos, af, g⟩ W (.int k (if b > a then b else a)) W := by
 show (do let d ← resolve (kV E) ⟨.builtin .max, #[x, y], ats⟩ ty; invoke d.target d.args : Sem Next).run P W = _
 simp [resolve, invoke, h, i, builtin, Builtin.max_, Builtin.max2]
theorem Om {t : TypeId} {x : Operand} {f : Nat} {fs : Array Field} {fd : Field} {cs : Array Value} (i : P.underlying t = some (.struct fs)) (h : fs[f]? = some fd) (b : ∀ w, (isAgg fd.type).run P w = .ok false w) (j : kV E x = .agg cs) (a : cs.toList[fd.offset]? = some v) :
  nc P E ⟨d, .field t x f, ty, pos, af, g⟩ W v W := by
 show (do pure (.value (← Instr.field t (kV E x) f)) : Sem Next).run P W = _
 rw [j]
 rw [dT] at a
 simp [Instr.field, aV i, h, part, asAgg, b W, a]
theorem OA {t : TypeId} {x : Operand} {f : Nat} {fs : Array Field} {fd : Field} {cs ds : Array Value} (l : P.underlying t = some (.struct fs)) (j : fs[f]? = some fd) (b : ∀ w, (isAgg fd.type).run P w = .ok true w) (h : ∀ w, (sizeOf fd.type).run P w = .ok k w) (m : kV E x = .agg cs) (i : (cs.toList.drop fd.offset).take k = ds.toList) :
  nc P E ⟨d, .field t x f, ty, pos, af, g⟩ W (.agg ds) W := by
 show (do pure (.value (← Instr.field t (kV E x) f)) : Sem Next).run P W = _
 rw [m]
 have a : cs.extract fd.offset (fd.offset + k) = ds := by
  apply Array.ext'
  rw [Array.toList_extract, List.extract_eq_drop_take, Nat.add_sub_cancel_left, i]
 simp [Instr.field, aV l, j, part, asAgg, b W, h W, a]
end
end Go.Proofs.YtklbhegeiijbjaaGreat
namespace Go.Proofs.YtklbhegeiijbjaaGreat
open Go.RowKit
theorem BS {p : Prop} [Decidable p] {u : Unit} (h : rh (decide p) = some u) : p := iB (Gr h)
section
variable {P : Program} {E : Nat → Value} {W : World} {d : Option Nat} {ty : TypeId} {pos : String} {af : Array Edge} {g : Option (Nat × Bool)}
 {F : Nat → Prop} {w : World} {μ : lQ} {L : List (Nat × Obj)} {α : Type} {e : TypeId} {enc : α → List Value} {k : Nat} {v : Value} {l : List α} {R : List (Nat × Obj)} {dd : Bool}
def yy {α : Type} (l : List α) (i j : Nat) : List α := l.take i ++ l.drop j ++ l.drop (l.length - (j - i))
theorem CY {α : Type} (l : List α) {i j : Nat} (a : i ≤ j) (b : j ≤ l.length) : (yy l i j).length = l.length := by
 simp [yy]; omega
theorem IF (hk : ∀ x, (enc x).length = k) (l : List α) (i : Nat) (b : i ≤ l.length) : (l.map enc).flatten.drop (i * k) = ((l.drop i).map enc).flatten := by
 have h1 : (l.map enc).flatten = ((l.take i).map enc).flatten ++ ((l.drop i).map enc).flatten := by rw [← cT, ← cL, gC]
 have a : ((l.take i).map enc).flatten.length = i * k := by rw [pL hk, cQ, dE b]
 rw [h1, ← a, List.drop_left]
theorem KB {K : Value → World → Prop} (X : List (Nat × Obj)) {Y : List (Nat × Obj)} {t : TypeId} {x y : Operand} {i j : Nat} {v1 u : Value} {ti : TypeInfo} (G : ST dd F w W μ (X ++ (R ++ Y))) (h : lA e enc k v l R) (h1 : lA e enc k v1 (l.take i) R) (hk : ∀ x, (enc x).length = k) (ae : 0 < k) (aa : ∀ x, ∀ u ∈ enc x, u.oneCell' = true) (ht : P.underlying t = some (.slice e)) (hi : P.info? e = some ti) (U : ti.size = k) (I : i ≤ j) (hj : j ≤ l.length) (hu : xv k v j u) (hx : kV E x = v1) (hy : kV E y = u) (hK : ∀ W' v' R', ST dd F w W' μ (X ++ (R' ++ Y)) → lA e enc k v (yy l i j) R' → lA e enc k v' (l.take i ++ l.drop j) R' → K v' W') : ov P E ⟨d, .call ⟨.builtin .append, #[x, y], #[t, t]⟩, ty, pos, af, g⟩ W K := by
 have s : ∀ (V : Value) (W' : World), (Builtin.append_ #[t, t] ty #[v1, u]).run P W = .ok V W' → (execOp (kV E) ⟨d, .call ⟨.builtin .append, #[x, y], #[t, t]⟩, ty, pos, af, g⟩).run P W = .ok (.value V) W' := by
  intro V W' hV
  show (do let d ← resolve (kV E) ⟨.builtin .append, #[x, y], #[t, t]⟩ ty; invoke d.target d.args : Sem Next).run P W = _
  simp [resolve, invoke, builtin, hx, hy, hV]
 obtain ⟨A, n, c, A', c', e1, rfl, h7, h8⟩ := hu
 rcases h with ⟨rfl, rfl, rfl⟩ | ⟨z, cap, m, rfl, rfl, q1, q2, q3, q4⟩
 ·cases e1
  have ai : v1 = .slice none 0 0 := by
   rcases h1 with ⟨h, _, _⟩ | ⟨_, _, _, _, h, _⟩
   ·exact h
   ·cases h
  subst ai
  refine .inl ⟨_, W, s (.slice none 0 0) W ?_, hK W _ [] G (by simpa [yy] using lA.nil e enc k) (by simpa using lA.nil e enc k)⟩
  cases A' <;> simp [Builtin.append_, aV ht, sizeOf, typeInfo, hi, Builtin.lenOf, Builtin.firstCells, loadCells, loadCellsFrom]
 ·cases e1
  obtain ⟨g1, a, r, rfl, eR, a1, a2, a3, a4⟩ : ∃ g1 a r, v1 = .slice (some ⟨g1, 0, none⟩) (l.take i).length a ∧ [(z, Obj.cells m e (0, 0))] = [(g1, .cells r e (0, 0))] ∧ (l.take i).length ≤ a ∧ a ≤ maxLen ∧ r.size = a * k ∧ r.toList.take ((l.take i).length * k) = ((l.take i).map enc).flatten := by
   rcases h1 with ⟨_, _, h⟩ | h
   ·cases h
   ·exact h
  cases eR
  have Z : a = c := iH ae (a3.symm.trans q3)
  subst Z
  have p : (l.take i).length = i := by rw [cQ]; omega
  rw [p] at a1 a4 s
  have hb := (G.box z (.cells m e (0, 0)) (by simp)).1
  by_cases ag : j < l.length
  ·obtain ⟨b, o, e2, rfl⟩ := h8 ag
   cases e2
   have L : (((l.drop j).map enc).flatten).length = (l.length - j) * k := by rw [pL hk, eP]
   have e0 : m.toList.length = a * k := by simpa using q3
   have ao : l.length * k ≤ a * k := cI _ q1
   have an : j * k ≤ l.length * k := cI _ hj
   have al : i * k ≤ j * k := cI _ I
   have ak : (l.length - j) * k = l.length * k - j * k := Nat.sub_mul _ _ _
   have ab : (m.toList.take (l.length * k)).drop (j * k) = ((l.drop j).map enc).flatten := by rw [q4, IF hk l j hj]
   have Q : ∀ q u, (((l.drop j).map enc).flatten)[q]? = some u → W.cell? (Addr.add ⟨z, 0 + j * k, none⟩ q) = some u := by
    intro q u hq
    rw [dG, iE W z (0 + j * k + q) m e (0, 0) hb, fO]
    rw [← ab, dY] at hq
    have a8 : j * k + q < l.length * k := by
     have := (bM.1 hq).1
     rw [cQ] at this
     omega
    rw [eE a8] at hq
    simpa using hq
   have T : ∀ u ∈ ((l.drop j).map enc).flatten, u.oneCell' = true := by
    intro u hu
    obtain ⟨ys, aj, ah⟩ := jt.1 hu
    obtain ⟨x, _, rfl⟩ := bN.1 aj
    exact aa x u ah
   have hr := run_append_room (P := P) W t ty e ti ht hi z i a m hb ⟨z, 0 + j * k, none⟩ (l.length - j) c' _ (by rw [U, L]) Q T (by omega) (by rw [U, L]; simp only [dJ] at e0; omega)
   rw [U, L] at hr
   have hS := ST.store (A := X) (b := z) (cs := m) (t := e) (B := Y) G (m.toList.take (i * k) ++ ((l.drop j).map enc).flatten ++ m.toList.drop (i * k + (l.length - j) * k)).toArray
   have a7 : m.toList.take (i * k) = ((l.take i).map enc).flatten := a4
   have J : (m.toList.take (i * k) ++ ((l.drop j).map enc).flatten).length = (i + (l.length - j)) * k := by rw [aF, cQ, L, e0, dE (by omega), cP]
   have D : (m.toList.take (i * k) ++ ((l.drop j).map enc).flatten ++ m.toList.drop (i * k + (l.length - j) * k)).length = a * k := by
    rw [aF, J, eP, e0, cP]; omega
   refine .inl ⟨_, _, s _ _ hr, hK _ _ [(z, .cells _ e (0, 0))] hS (.inr ⟨z, a, _, by rw [CY l I hj], rfl, by rw [CY l I hj]; exact q1, q2, by rw [dV, D], ?_⟩) (.inr ⟨z, a, _, by rw [aF, p, eP], rfl, by rw [aF, p, eP]; omega, q2, by rw [dV, D], ?_⟩)⟩
   ·rw [CY l I hj]
    show List.take (l.length * k) (m.toList.take (i * k) ++ ((l.drop j).map enc).flatten ++ m.toList.drop (i * k + (l.length - j) * k)) = _
    have M : l.length * k = (i + (l.length - j)) * k + (j - i) * k := by rw [← cP]; congr 1; omega
    have hm : (l.length - (j - i)) * k = i * k + (l.length - j) * k := by rw [← cP]; congr 1; omega
    have O : (m.toList.drop (i * k + (l.length - j) * k)).take ((j - i) * k) = ((l.drop (l.length - (j - i))).map enc).flatten := by
     rw [← hm, ← IF hk l _ (by omega), ← q4, jf]
     congr 1
     rw [← Nat.sub_mul]; congr 1; omega
    rw [M, fV, J, Nat.add_sub_cancel_left, dN (by rw [J]; omega), O, a7]
    simp [yy, aM]
   ·rw [aF, p, eP]
    show List.take ((i + (l.length - j)) * k) (m.toList.take (i * k) ++ ((l.drop j).map enc).flatten ++ m.toList.drop (i * k + (l.length - j) * k)) = _
    rw [← J, jj, a7]
    simp
  ·have ad : j = l.length := by omega
   subst ad
   have a6 : yy l i l.length = l := by
    unfold yy
    rw [show l.length - (l.length - i) = i by omega, aI, bG, gC]
   refine .inl ⟨.slice (some ⟨z, 0, none⟩) i a, W, s _ W ?_, hK W _ _ G (by rw [a6]; exact .inr ⟨z, a, m, rfl, rfl, q1, q2, q3, q4⟩) (.inr ⟨z, a, m, by simp [p], rfl, by simpa [p] using a1, q2, q3, by simpa [p] using a4⟩)⟩
   cases A' <;> simp [Builtin.append_, aV ht, sizeOf, typeInfo, hi, Builtin.lenOf, Builtin.firstCells, loadCells, loadCellsFrom, storeCells, a1]
theorem N6 {j : List α} {A : Value} {t : TypeId} {x n ih : Operand} {Z z : IntKind} {a b : Int} (I : P.underlying t = some (.slice e)) (he : ∀ w, (sizeOf e).run P w = .ok k w) (s : 0 < k) (Q : lA e enc k v l R) (h1 : lA e enc k A j R) (J : kV E x = A) (G : kV E n = .int Z a) (F : kV E ih = .int z b) (ha : 0 ≤ a) (T : a ≤ b) (U : b = (l.length : Int)) (q : a = (j.length : Int)) : ∃ u, xv k v a.toNat u ∧ ∀ W, nc P E ⟨d, .slice t x (some n) (some ih) none, ty, pos, af, g⟩ W u W := by
 subst q; subst U
 have hle : j.length ≤ l.length := by omega
 rcases Q with ⟨rfl, rfl, rfl⟩ | ⟨p, cap, L, rfl, rfl, q1, q2, q3, q4⟩
 ·have Y : A = .slice none 0 0 ∧ j = [] := by
   rcases h1 with ⟨h, O, _⟩ | ⟨_, _, _, _, h, _⟩
   ·exact ⟨h, O⟩
   ·cases h
  obtain ⟨rfl, rfl⟩ := Y
  refine ⟨.slice none 0 0, ⟨none, 0, 0, none, 0, rfl, rfl, aZ _, fun h => absurd h (by simp)⟩, fun W => ?_⟩
  show (do pure (.value (← Instr.sliceAt t (kV E x) (some (kV E n)) (some (kV E ih)) none)) : Sem Next).run P W = _
  rw [J, G, F]
  simp [Instr.sliceAt, Instr.slice, Instr.sliceBounds, Instr.sliceBound, asIntOf, aV I, he W]
 ·rcases h1 with ⟨_, _, h⟩ | ⟨g1, i, D, rfl, M, a1, a2, a3, a4⟩
  ·cases h
  cases M
  have m : i = cap := iH s (a3.symm.trans q3)
  subst m
  refine ⟨.slice (some (if i = j.length then ⟨p, 0, none⟩ else (Addr.add ⟨p, 0, none⟩ (j.length * k)))) (l.length - j.length) (i - j.length), ⟨_, _, _, _, _, rfl, rfl, by simpa using hle, fun y => ⟨p, 0, rfl, ?_⟩⟩, fun W => ?_⟩
  ·simp only [dO] at y ⊢
   rw [bB (by omega)]; simp [dG]
  ·show (do pure (.value (← Instr.sliceAt t (kV E x) (some (kV E n)) (some (kV E ih)) none)) : Sem Next).run P W = _
   rw [J, G, F]
   have r : (j.length : Int) ≤ (l.length : Int) ∧ (l.length : Int) ≤ (i : Int) := ⟨by omega, by omega⟩
   simp [Instr.sliceAt, Instr.slice, Instr.sliceBounds, Instr.sliceBound, asIntOf, aV I, he W, r, hle, q1]
   split <;> rfl
theorem OS {t : TypeId} {x h ih i : Operand} {Q q r : IntKind} {a b m : Int} (A : P.underlying t = some (.slice e)) (he : ∀ w, (sizeOf e).run P w = .ok k w) (M : lA e enc k v l R) (D : kV E x = v) (z : kV E h = .int Q a) (y : kV E ih = .int q b) (hm : kV E i = .int r m) (ha : 0 ≤ a) (O : a ≤ b) (T : b ≤ m) (p : m ≤ (l.length : Int)) : ∃ u, True ∧ ∀ W, nc P E ⟨d, .slice t x (some h) (some ih) (some i), ty, pos, af, g⟩ W u W := by
 obtain ⟨a, rfl⟩ : ∃ n : Nat, a = (n : Int) := ⟨a.toNat, by omega⟩
 obtain ⟨b, rfl⟩ : ∃ n : Nat, b = (n : Int) := ⟨b.toNat, by omega⟩
 obtain ⟨m, rfl⟩ : ∃ n : Nat, m = (n : Int) := ⟨m.toNat, by omega⟩
 have G : a ≤ b := by omega
 have I : b ≤ m := by omega
 rcases M with ⟨rfl, rfl, rfl⟩ | ⟨s, cap, F, rfl, rfl, U, Y, Z, q4⟩
 ·have j : m = 0 := by simp at p; omega
  subst j
  have J : b = 0 := by omega
  subst J
  have L : a = 0 := by omega
  subst L
  refine ⟨.slice none 0 0, trivial, fun W => ?_⟩
  show (do pure (.value (← Instr.sliceAt t (kV E x) (some (kV E h)) (some (kV E ih)) (some (kV E i)))) : Sem Next).run P W = _
  rw [D, z, y, hm]
  simp [Instr.sliceAt, Instr.slice, Instr.sliceBounds, Instr.sliceBound, asIntOf, aV A, he W]
 ·have j : m ≤ cap := by omega
  refine ⟨.slice (if m = a then some ⟨s, 0, none⟩ else some (Addr.add ⟨s, 0, none⟩ (a * k))) (b - a) (m - a), trivial, fun W => ?_⟩
  show (do pure (.value (← Instr.sliceAt t (kV E x) (some (kV E h)) (some (kV E ih)) (some (kV E i)))) : Sem Next).run P W = _
  rw [D, z, y, hm]
  simp [Instr.sliceAt, Instr.slice, Instr.sliceBounds, Instr.sliceBound, asIntOf, aV A, he W, G, I, j]
theorem lA.OV {i b : List α} {s : Value} {R2 : List (Nat × Obj)} (m : 0 < k) (hk : ∀ x, (enc x).length = k) (E : lA e enc k v l R) (h1 : lA e enc k s b R) (q : lA e enc k v i R2) (r : b.length ≤ i.length) : lA e enc k s (i.take b.length) R2 := by
 rcases E with ⟨rfl, rfl, rfl⟩ | ⟨D, cap, z, rfl, rfl, J, L, F, M⟩
 ·rcases h1 with ⟨rfl, rfl, _⟩ | ⟨_, _, _, _, h, _⟩
  ·rcases q with ⟨_, rfl, rfl⟩ | ⟨_, _, _, h, _⟩
   ·exact lA.nil e enc k
   ·cases h
  ·cases h
 ·rcases h1 with ⟨_, _, h⟩ | ⟨g1, a, p, rfl, A, t, a2, a3, a4⟩
  ·cases h
  cases A
  have g : a = cap := iH m (a3.symm.trans F)
  subst g
  rcases q with ⟨h, _⟩ | ⟨g2, n, d, h, rfl, G, u, w, y⟩
  ·cases h
  ·simp only [Value.slice.injEq, iA, Addr.mk.injEq] at h
   obtain ⟨⟨rfl, _, _⟩, I, rfl⟩ := h
   have j : (i.take b.length).length = b.length := by rw [cQ]; omega
   refine .inr ⟨D, a, d, by rw [j], rfl, by rw [j]; exact t, u, w, ?_⟩
   rw [j, Cy hk i b.length r, ← y, iG, dE (cI _ r)]
end
end Go.Proofs.YtklbhegeiijbjaaGreat
namespace Go.Proofs.YtklbhegeiijbjaaGreat
open Go.RowKit
variable {dd : Bool}
section
variable {P : Program} {fn : Func} {R : Ending → World → Prop} {E : Nat → Value} {W : World}
theorem qZ {a : Tmp} {t0 : TypeId} {a0 : Addr} {v0 : Value} {b : Tmp} {v1 : Value} (g : fn.results = #[.cell a t0, .tmp b]) (d : E a = .pointer (some a0)) (j : (Instr.loadAt t0 (.pointer (some a0))).run P W = .ok v0 W) (h1 : E b = v1) (h : R (.returned (.tuple #[v0, v1])) W) : ze P fn R .ret E W :=
 ⟨.tuple #[v0, v1], fun tmps i => by
  have k : (loadVar t0 a0).run P W = .ok v0 W := by simpa [Instr.loadAt, Instr.sureAddr] using j
  simp [results, g, i, asAddr, d, k, h1], h⟩
theorem KM {a : Tmp} {v0 : Value} {b : Tmp} {v1 : Value} {d : Tmp} {v2 : Value} (j : fn.results = #[.tmp a, .tmp b, .tmp d]) (g : E a = v0) (h1 : E b = v1) (i : E d = v2) (h : R (.returned (.tuple #[v0, v1, v2])) W) : ze P fn R .ret E W :=
 ⟨.tuple #[v0, v1, v2], fun tmps k => by
  skip
  simp [results, j, k, asAddr, g, h1, i], h⟩
end
end Go.Proofs.YtklbhegeiijbjaaGreat
namespace Go.Proofs.YtklbhegeiijbjaaGreat
open Go.RowKit
section
variable {x y : Nat × Obj} {A B C L R S : List (Nat × Obj)}
theorem Pz : (x :: A).Perm (x :: A) := .refl _
theorem Pb (h : A.Perm (x :: B)) : (y :: A).Perm (x :: y :: B) := (h.cons y).trans (.swap ..)
theorem Pr (h : A.Perm (x :: B)) : (S ++ A).Perm (x :: (S ++ B)) := (h.append_left S).trans gO
theorem Qz : (R ++ A).Perm (R ++ A) := .refl _
theorem Qb (h : A.Perm (R ++ B)) : (y :: A).Perm (R ++ (y :: B)) := (h.cons y).trans List.perm_middle.symm
theorem Qr (h : A.Perm (R ++ B)) : (S ++ A).Perm (R ++ (S ++ B)) := (h.append_left S).trans (iC S R B)
def nq (L L' : List (Nat × Obj)) : Prop := ∃ M, L.Perm (L' ++ M)
theorem Sn : nq L [] := ⟨L, .refl _⟩
theorem St : nq L L := ⟨[], by rw [bG]⟩
theorem Sb (h : L.Perm (x :: A)) (k : nq A B) : nq L (x :: B) := let ⟨M, m⟩ := k; ⟨M, h.trans (m.cons x)⟩
theorem Sr (h : L.Perm (R ++ A)) (k : nq A B) : nq L (R ++ B) := let ⟨M, m⟩ := k; ⟨M, by rw [aM]; exact h.trans (m.append_left R)⟩
theorem Kb (k : nq A B) : nq (x :: A) (x :: B) := Sb Pz k
theorem Kr (k : nq A B) : nq (R ++ A) (R ++ B) := Sr Qz k
theorem Db (k : nq A B) : nq (x :: A) B := let ⟨M, m⟩ := k; ⟨x :: M, (m.cons x).trans List.perm_middle.symm⟩
theorem Dr (k : nq A B) : nq (R ++ A) B := let ⟨M, m⟩ := k; ⟨R ++ M, (m.append_left R).trans (iC R B M)⟩
theorem nq.mem (s : nq L A) : ∀ p, p ∈ A → p ∈ L := fun p hp => let ⟨M, m⟩ := s; m.mem_iff.2 (cO _ hp)
theorem ST.kH {dd : Bool} {F : Nat → Prop} {w W : World} {μ : lQ} (h : ST dd F w W μ L) (s : nq L A) : ST dd F w W μ A := let ⟨M, m⟩ := s; (h.perm m).sublist (List.sublist_append_left A M)
theorem oD.kH {μ : lQ} {W : World} (h : oD μ L W) (s : nq L A) : oD μ A W := h.sub (lu.refl _) s.mem
theorem oD.pZ {μ μ' : lQ} {W : World} (h : oD μ L W) (a : lu μ' μ) (s : nq L A) : oD μ' A W := h.sub a s.mem
theorem Cn : L.Perm ([] ++ L) := .refl _
theorem Cb (h : L.Perm (x :: A)) (k : A.Perm (B ++ C)) : L.Perm ((x :: B) ++ C) := h.trans (k.cons x)
theorem Cr (h : L.Perm (R ++ A)) (k : A.Perm (B ++ C)) : L.Perm ((R ++ B) ++ C) := by rw [aM]; exact h.trans (k.append_left R)
theorem C0 (k : L.Perm (B ++ C)) : L.Perm (([] ++ B) ++ C) := k
theorem Tn : ([] ++ A).Perm A := .refl _
theorem Tb (h : (A ++ B).Perm C) : ((x :: A) ++ B).Perm (x :: C) := h.cons x
theorem Tr (h : (A ++ B).Perm C) : ((R ++ A) ++ B).Perm (R ++ C) := by rw [aM]; exact h.append_left R
theorem Nb (h : L.Perm (x :: A)) (k : A.Perm B) : L.Perm (x :: B) := h.trans (k.cons x)
theorem Nr (h : L.Perm (R ++ A)) (k : A.Perm B) : L.Perm (R ++ B) := h.trans (k.append_left R)
theorem Nz : L.Perm L := .refl _
theorem Ul {R' R1 : List (Nat × Obj)} (hp : R.Perm (R' ++ R1)) : (R ++ A).Perm (R' ++ (R1 ++ A)) := by rw [← aM]; exact hp.append_right A
theorem Mh : x ∈ x :: A := .head _
theorem Mt (h : x ∈ A) : x ∈ y :: A := .tail _ h
theorem Ma (h : x ∈ A) : x ∈ R ++ A := eV _ h
theorem Ml (h : x ∈ R) : x ∈ R ++ A := cO _ h
end
section
variable {dd : Bool} {F : Nat → Prop} {w W : World} {μ : lQ} {L L0 L1 Y R : List (Nat × Obj)}
theorem ST.LR (h : ST dd lU w W μ L) (s : nq L L1) : vj dd [] L1 w W := let ⟨_, m⟩ := s; (h.perm m).Td
theorem ST.mX (h : ST dd (keys L0) w W μ L) (s : nq L L1) : vj dd L0 L1 w W := let ⟨_, m⟩ := s; (h.perm m).Ti
theorem ST.JO : ∀ {R : List (Nat × Obj)} {μ : lQ}, ST dd F w W μ (R ++ Y) → ∃ μ', ST dd F w W μ' Y ∧ lu μ μ' ∧ Lo F w μ μ' ∧ ∀ b o, (b, o) ∈ R → μ' b = some o
 | [], μ, h => ⟨μ, h, lu.refl _, Lo.refl, fun _ _ h => by cases h⟩
 | (g, o) :: R, μ, h => by
  have d : ST dd F w W μ ([] ++ (g, o) :: (R ++ Y)) := h
  obtain ⟨μ', i, a2, a3, a4⟩ := ST.JO (R := R) (ST.Is (A := []) d)
  refine ⟨μ', i, (ST.H6 (A := []) d).trans a2, (ST.Ov (A := []) d).trans a3, fun b j a => ?_⟩
  rcases aQ.1 a with a | a
  ·cases a; exact a2 _ _ (aX rfl)
  ·exact a4 b j a
theorem ST.O4 {α : Type} {e' : TypeId} {enc : α → List Value} {k : Nat} {v : Value} {l : List α} (a : ST dd F w W μ (R ++ Y)) (h : lA e' enc k v l R) (hk : ∀ x, (enc x).length = k) : ∃ μ', ST dd F w W μ' Y ∧ lu μ μ' ∧ Lo F w μ μ' ∧ Sl (Pl enc) k μ' v l := by
 obtain ⟨μ', b, a2, a3, a4⟩ := ST.JO a
 exact ⟨μ', b, a2, a3, h.sl hk a4⟩
section
variable {P : Program} {n : Nat} {Q : qK} {E : Nat → Value} {V : World} {id : Nat} {l : List Oper} {A B C : List (Nat × Obj)}
theorem mi (a : oD μ A V.drew) (hm : P.follows .mixedOrders = true) (h : PX P n l.toArray Q (fun _ W => oD μ A W) l.length (Array.replicate l.length false) E V.drew) : CW P n (.region id l.toArray true) Q E V := Kn _ hm h
theorem wo (i : Nat) (a : oD μ A V.drew) (h1 : oD μ B V.drew) (hm : P.follows .mixedOrders = true) (h : PX P n l.toArray Q (fun l W => oD μ A W ∧ (l.getD i true = false → oD μ B W)) l.length (Array.replicate l.length false) E V.drew) : CW P n (.region id l.toArray true) Q E V := Kn _ hm h
end
structure oC (μ : lQ) (L0 : List (Nat × Obj)) (w : World) : Prop where
 H : E7 L0 w
 N : (L0.map (·.1)).Nodup
 S : lu μ (vI w L0)
theorem ST.OB (h : oC μ L0 w) : ST dd (keys L0) w w μ L0 := (ST.Sk h.H h.N).mR h.S
end
section
variable {dd : Bool} {P : Program} {E : Nat → Value} {W : World} {d : Option Nat} {ty : TypeId} {pos : String} {af : Array Edge} {g : Option (Nat × Bool)} {F : Nat → Prop} {w : World} {μ : lQ} {L : List (Nat × Obj)}
theorem lh {K : Value → World → Prop} {B : List (Nat × Obj)} {t : TypeId} {x y : Operand} (v : Value) {b off : Nat} {cs : Array Value} {T : TypeId} (a : Array Value) (i : ST dd F w W μ ((b, .cells cs T (0, 0)) :: B)) (m : kV E x = .pointer (some ⟨b, off, none⟩)) (n : kV E y = v) (j : ∀ w, (sizeOf t).run P w = .ok v.cells.size w) (h1 : ∀ u ∈ v.cells.toList, u.oneCell' = true) (l : off + v.cells.size ≤ cs.size) (k : (cs.toList.take off ++ v.cells.toList ++ cs.toList.drop (off + v.cells.size)).toArray = a) (h : ∀ W', ST dd F w W' μ ((b, .cells a T (0, 0)) :: B) → K undef W') : ov P E ⟨d, .store t x y, ty, pos, af, g⟩ W K := QM [] v a i m n j h1 l k h
end
section
variable {dd : Bool}
variable {P : Program} {n : Nat} {Q : qK} {E : Nat → Value} {W : World} {ops : Array Oper} {rest : List Oper}
 {d : Option Nat} {ty : TypeId} {pos : String} {af : Array Edge} {g : Option (Nat × Bool)}
 {F : Nat → Prop} {w : World} {μ : lQ} {L : List (Nat × Obj)}
theorem oG {K : Value → World → Prop} {α : Type} {e t : TypeId} {enc : α → List Value} {k a : Nat} {z v vs : Value} {l m r : List α} {R Y : List (Nat × Obj)} {x y : Operand} {i : TypeInfo} (b : ST dd F w W μ (R ++ Y)) (hk : ∀ x, (enc x).length = k) (n : 0 < k) (h1 : ∀ x, ∀ u ∈ enc x, u.oneCell' = true) (J : P.underlying t = some (.slice e)) (G : P.info? e = some i) (O : i.zero = some z) (q : z.cells.size = k) (p : i.size = k) (j : i.bytes = a) (L : kV E x = v) (M : kV E y = vs) (A : lA e enc k v l R) (I : Sl (Pl enc) k (hp W) vs m) (D : nG a l m = some r) (h : ∀ W' s R', ST dd F w W' μ (R' ++ Y) → lA e enc k s r R' → K s W') : ov P E ⟨d, .call ⟨.builtin .append, #[x, y], #[t, t]⟩, ty, pos, af, g⟩ W K :=
 J0 [] b hk n h1 J G O q p j L M A I D h
end
section
variable {dd : Bool}
variable {P : Program} {E : Nat → Value} {W : World} {d : Option Nat} {ty : TypeId} {pos : String} {af : Array Edge} {g : Option (Nat × Bool)}
 {F : Nat → Prop} {w : World} {μ : lQ} {L : List (Nat × Obj)}
theorem Mu {K : Value → World → Prop} {α : Type} {e : TypeId} {enc : α → List Value} {k : Nat} {l : List α} {f : FuncId} {fv : Operand} {ax : Array Operand} {ats : Array TypeId} {caps : Array Value} {args : List Value} (Y : List (Nat × Obj)) (a : ST dd F w W μ Y) (i : kV E fv = .func (.func f) #[] caps) (he : ∀ args w, (callFunc f args).run P w = .ok (.enter f args) w) (ha : ax.map (kV E) ++ caps = args.toArray) (b : nA dd P f args W e enc k l) (h : ∀ W' v μ' R, ST dd F w W' μ' (R ++ Y) → lu μ μ' → Lo F w μ μ' → lA e enc k v l R → K v W') : ov P E ⟨d, .call ⟨.value fv, ax, ats⟩, ty, pos, af, g⟩ W K :=
 ML [] Y a i he ha b h
end
section
variable {dd : Bool}
variable {P : Program} {E : Nat → Value} {W : World} {d : Option Nat} {ty : TypeId} {pos : String} {af : Array Edge} {g : Option (Nat × Bool)}
 {F : Nat → Prop} {w : World} {μ : lQ} {L : List (Nat × Obj)} {α : Type} {e' : TypeId} {enc : α → List Value} {k : Nat} {v : Value} {l : List α} {R : List (Nat × Obj)}
theorem DI {K : Value → World → Prop} {Y : List (Nat × Obj)} {t : TypeId} {x y : Operand} {p u : Value} {i : Nat} {x0 x1 : α} (a : ST dd F w W μ (R ++ Y)) (h : lA e' enc k v l R) (hk : ∀ x, (enc x).length = k) (h1 : ∀ x, ∀ u ∈ enc x, u.oneCell' = true) (n : kV E x = p) (q : kV E y = u) (hu : u.cells = (enc x1).toArray) (hp : BL R k p i) (m : l[i]? = some x0) (j : ∀ w, (sizeOf t).run P w = .ok k w) (b : ∀ W' R', ST dd F w W' μ (R' ++ Y) → lA e' enc k v (l.set i x1) R' → K undef W') : ov P E ⟨d, .store t x y, ty, pos, af, g⟩ W K :=
 MP [] a h hk h1 n q hu hp m j b
end
section
variable {dd : Bool}
variable {P : Program} {E : Nat → Value} {W : World} {d : Option Nat} {ty : TypeId} {pos : String} {af : Array Edge} {g : Option (Nat × Bool)}
 {F : Nat → Prop} {w : World} {μ : lQ} {L : List (Nat × Obj)} {α : Type} {e' : TypeId} {enc : α → List Value} {k : Nat} {v : Value} {l : List α} {R : List (Nat × Obj)}
theorem Di {K : Value → World → Prop} (z : α) {Y : List (Nat × Obj)} {t e : TypeId} {x : Operand} {u b : Value} {i : Nat} (a : ST dd F w W μ (R ++ Y)) (h : lA e' enc k v l R) (hk : ∀ x, (enc x).length = k) (h1 : ∀ x, ∀ u ∈ enc x, u.oneCell' = true) (n : P.underlying t = some (.slice e)) (q : ∀ w, (zeroValue e).run P w = .ok b w) (hu : xv k v i u) (m : b.cells = (enc z).toArray) (p : kV E x = u) (j : ∀ W' R', ST dd F w W' μ (R' ++ Y) → lA e' enc k v (pk l i z) R' → K (.tuple #[]) W') : ov P E ⟨d, .call ⟨.builtin .clear, #[x], #[t]⟩, ty, pos, af, g⟩ W K :=
 Ls z [] a h hk h1 n q hu m p j
end
section
variable {dd : Bool}
variable {κ γ : Type} {Q : Value → γ → List (Nat × Obj) → Prop} {beq : κ → κ → Bool} {kenc : κ → Value}
variable {P : Program} {W : World} {kt : TypeId} {E : Nat → Value} {d : Option Nat} {ty : TypeId} {pos : String} {af : Array Edge} {g : Option (Nat × Bool)} {F : Nat → Prop} {w : World} {μ : lQ} {L : List (Nat × Obj)}
variable {κ2 β : Type} {kenc2 : κ2 → Value} {vf : β → Value} {beq2 : κ2 → κ2 → Bool} {kt2 : TypeId}
theorem Np {i : Value → World → Prop} {Y R : List (Nat × Obj)} {t e : TypeId} {m x y : Operand} {p : Value} {b : List (κ × Value)} {l n : List (κ × List (κ2 × β))} {k : κ} {j : κ2} {v : β} (hk : ∀ {x y : κ}, beq x y = true → x = y) (K : qz P kt2 kenc2 beq2) (s : P.underlying t = some (.map kt2 e)) (a : ST dd F w W μ (R ++ Y)) (h : nV kenc (nh kenc2 vf) p b l R) (hm : kV E m = sG beq b k (.map none)) (u : kV E x = kenc2 j) (z : kV E y = vf v) (r : Gw beq beq2 l k j v = some n) (q : ∀ W' R', ST dd F w W' μ (R' ++ Y) → nV kenc (nh kenc2 vf) p b n R' → i undef W') : ov P E ⟨d, .mapUpdate t m x y, ty, pos, af, g⟩ W i :=
 OI [] hk K s a h hm u z r q
end
section
variable {dd : Bool}
variable {κ γ : Type} {Q : Value → γ → List (Nat × Obj) → Prop} {beq : κ → κ → Bool} {kenc : κ → Value}
variable {P : Program} {W : World} {kt : TypeId} {E : Nat → Value} {d : Option Nat} {ty : TypeId} {pos : String} {af : Array Edge} {g : Option (Nat × Bool)} {F : Nat → Prop} {w : World} {μ : lQ} {L : List (Nat × Obj)}
variable {κ2 β : Type} {kenc2 : κ2 → Value} {vf : β → Value} {beq2 : κ2 → κ2 → Bool} {kt2 : TypeId}
theorem ON {i : Value → World → Prop} {Y R R2 : List (Nat × Obj)} {t e : TypeId} {m x y : Operand} {b : Value} {n : List (κ × Value)} {l j : List (κ × γ)} {k : κ} {u : Value} {z : γ} (K : qz P kt kenc beq) (s : P.underlying t = some (.map kt e)) (a : ST dd F w W μ (R ++ (R2 ++ Y))) (h : nV kenc Q b n l R) (hm : kV E m = b) (v : kV E x = kenc k) (A : kV E y = u) (r : Q u z R2) (q : GR beq l k z = some j) (p : ∀ W' R', ST dd F w W' μ (R' ++ Y) → nV kenc Q b (po beq n k u) j R' → i undef W') : ov P E ⟨d, .mapUpdate t m x y, ty, pos, af, g⟩ W i :=
 NG [] K s a h hm v A r q p
end
section
variable {dd : Bool}
variable {κ γ : Type} {Q : Value → γ → List (Nat × Obj) → Prop} {beq : κ → κ → Bool} {kenc : κ → Value}
variable {P : Program} {W : World} {kt : TypeId} {E : Nat → Value} {d : Option Nat} {ty : TypeId} {pos : String} {af : Array Edge} {g : Option (Nat × Bool)} {F : Nat → Prop} {w : World} {μ : lQ} {L : List (Nat × Obj)}
theorem RH {i : Value → World → Prop} {Y R R1 : List (Nat × Obj)} {t e : TypeId} {m x y : Operand} {b : Value} {j : List (κ × Value)} {l : List (κ × γ)} {k : κ} {u : Value} {z : γ} (K : qz P kt kenc beq) (q : P.underlying t = some (.map kt e)) (a : ST dd F w W μ (R ++ (R1 ++ Y))) (h : Nd beq kenc Q b j l k R) (hm : kV E m = b) (r : kV E x = kenc k) (s : kV E y = u) (p : Q u z R1) (n : ∀ W' R', ST dd F w W' μ (R' ++ Y) → nV kenc Q b (po beq j k u) (po beq l k z) R' → i undef W') : ov P E ⟨d, .mapUpdate t m x y, ty, pos, af, g⟩ W i :=
 SA [] K q a h hm r s p n
end
section
variable {dd : Bool}
variable {κ γ : Type} {Q : Value → γ → List (Nat × Obj) → Prop} {beq : κ → κ → Bool} {kenc : κ → Value}
variable {P : Program} {W : World} {kt : TypeId} {E : Nat → Value} {d : Option Nat} {ty : TypeId} {pos : String} {af : Array Edge} {g : Option (Nat × Bool)} {F : Nat → Prop} {w : World} {μ : lQ} {L : List (Nat × Obj)}
theorem MT {j : Value → World → Prop} {Y R : List (Nat × Obj)} {t e : TypeId} {m x : Operand} {i z : Value} {x0 : γ} {u : List (κ × Value)} {l : List (κ × γ)} {k : κ} (hk : ∀ {x y : κ}, beq x y = true ↔ x = y) (K : qz P kt kenc beq) (q : P.underlying t = some (.map kt e)) (s : ∀ w, (zeroValue e).run P w = .ok z w) (b : Q z x0 []) (a : ST dd F w W μ (R ++ Y)) (h : nV kenc Q i u l R) (hm : kV E m = i) (r : kV E x = kenc k) (p : ∀ W' v n R' R1, ST dd F w W' μ (R' ++ (R1 ++ Y)) → Q v ((mJ beq l k).getD x0) R1 → Jz beq kenc Q i l k n R' → j (.tuple #[v, .int .i64 (n : Nat)]) W') : ov P E ⟨d, .mapEntry t m x, ty, pos, af, g⟩ W j :=
 M4 [] hk K q s b a h hm r p
end
section
variable {dd : Bool}
variable {κ γ : Type} {Q : Value → γ → List (Nat × Obj) → Prop} {beq : κ → κ → Bool} {kenc : κ → Value}
variable {P : Program} {W : World} {kt : TypeId} {E : Nat → Value} {d : Option Nat} {ty : TypeId} {pos : String} {af : Array Edge} {g : Option (Nat × Bool)} {F : Nat → Prop} {w : World} {μ : lQ} {L : List (Nat × Obj)}
theorem KQ {j : Value → World → Prop} {Y R R1 : List (Nat × Obj)} {t e : TypeId} {m s y : Operand} {i u : Value} {z : γ} {l : List (κ × γ)} {k : κ} {n : Nat} (hk : ∀ {x y : κ}, beq x y = true ↔ x = y) (K : qz P kt kenc beq) (a : ST dd F w W μ (R ++ (R1 ++ Y))) (h : Jz beq kenc Q i l k n R) (hm : kV E m = i) (r : kV E s = .int .i64 (n : Nat)) (v : kV E y = u) (q : Q u z R1) (p : ∀ W' b R', ST dd F w W' μ (R' ++ Y) → nV kenc Q i b (po beq l k z) R' → j undef W') : ov P E ⟨d, .entryStore t m s y, ty, pos, af, g⟩ W j :=
 KR (e := e) [] hk K a h hm r v q p
end
section
variable {dd : Bool}
variable {α : Type} {e : TypeId} {enc : α → List Value} {k : Nat} {v : Value} {l : List α} {R : List (Nat × Obj)}
variable {P : Program} {W : World} {E : Nat → Value} {d : Option Nat} {ty : TypeId} {pos : String} {af : Array Edge} {g : Option (Nat × Bool)} {F : Nat → Prop} {w : World} {μ : lQ} {L : List (Nat × Obj)}
theorem Lp {K : Value → World → Prop} {t : TypeId} {a : Nat} {z vs : Value} {m r : List α} {Y : List (Nat × Obj)} {x y : Operand} {i : TypeInfo} (b : ST dd F w W μ (R ++ Y)) (hk : ∀ x, (enc x).length = k) (n : 0 < k) (h1 : ∀ x, ∀ u ∈ enc x, u.oneCell' = true) (J : P.underlying t = some (.slice e)) (G : P.info? e = some i) (O : i.zero = some z) (q : z.cells.size = k) (p : i.size = k) (j : i.bytes = a) (L : kV E x = v) (M : kV E y = vs) (A : rz e enc k v l R) (I : Sl (Pl enc) k (hp W) vs m) (D : nG a l m = some r) (h : ∀ W' s R', ST dd F w W' μ (R' ++ Y) → rz e enc k s r R' → K s W') : ov P E ⟨d, .call ⟨.builtin .append, #[x, y], #[t, t]⟩, ty, pos, af, g⟩ W K :=
 Lm [] b hk n h1 J G O q p j L M A I D h
end
section
variable {P : Program} {E : Nat → Value} {W : World} {d : Option Nat} {ty : TypeId} {pos : String} {af : Array Edge} {g : Option (Nat × Bool)}
 {F : Nat → Prop} {w : World} {μ : lQ} {L : List (Nat × Obj)} {α : Type} {e : TypeId} {enc : α → List Value} {k : Nat} {v : Value} {l : List α} {R : List (Nat × Obj)} {dd : Bool}
theorem Kd {K : Value → World → Prop} {Y : List (Nat × Obj)} {t : TypeId} {x y : Operand} {i j : Nat} {v1 u : Value} {q : TypeInfo} (b : ST dd F w W μ (R ++ Y)) (h : lA e enc k v l R) (h1 : lA e enc k v1 (l.take i) R) (hk : ∀ x, (enc x).length = k) (n : 0 < k) (a : ∀ x, ∀ u ∈ enc x, u.oneCell' = true) (D : P.underlying t = some (.slice e)) (z : P.info? e = some q) (p : q.size = k) (m : i ≤ j) (A : j ≤ l.length) (hu : xv k v j u) (G : kV E x = v1) (I : kV E y = u) (s : ∀ W' r R', ST dd F w W' μ (R' ++ Y) → lA e enc k v (yy l i j) R' → lA e enc k r (l.take i ++ l.drop j) R' → K r W') : ov P E ⟨d, .call ⟨.builtin .append, #[x, y], #[t, t]⟩, ty, pos, af, g⟩ W K :=
 KB [] b h h1 hk n a D z p m A hu G I s
end
end Go.Proofs.YtklbhegeiijbjaaGreat
namespace Go.Proofs.YtklbhegeiijbjaaGreat
open Go.RowKit
section
variable {P : Program} {n : Nat} {Q : qK} {E : Nat → Value} {W : World} {ops : Array Oper} {rest : List Oper}
variable {d j t : Nat} {want : Bool} {v : Value} {ins : Go.Op} {ty : TypeId} {pos : String} {af : Array Edge} {A : Value → Prop}
theorem V (b : nc P E ⟨some d, ins, ty, pos, af, none⟩ W v W) (h : LW P n ops Q rest (oI E d v) W) (a : d < n := by decide) : LW P n ops Q (⟨some d, ins, ty, pos, af, none⟩ :: rest) E W := Io (.inl rfl) rfl a b h
theorem VE (h : ov P E ⟨some d, ins, ty, pos, af, none⟩ W fun v W' => LW P n ops Q rest (oI E d v) W') (a : d < n := by decide) : LW P n ops Q (⟨some d, ins, ty, pos, af, none⟩ :: rest) E W := RN (.inl rfl) rfl a h
theorem VO (h : ov P E ⟨none, ins, ty, pos, af, none⟩ W fun _ W' => LW P n ops Q rest E W') : LW P n ops Q (⟨none, ins, ty, pos, af, none⟩ :: rest) E W := Tj (.inl rfl) rfl h
theorem VQ (b : ∃ p, A p ∧ ∀ W, nc P E ⟨some d, ins, ty, pos, af, none⟩ W p W) (h : ∀ p, A p → LW P n ops Q rest (oI E d p) W) (a : d < n := by decide) : LW P n ops Q (⟨some d, ins, ty, pos, af, none⟩ :: rest) E W := SK (.inl rfl) rfl a b h
theorem Vg (b : (ops[j]?).bind (·.dst) = some t) (a : E t = .bool want) (i : nc P E ⟨some d, ins, ty, pos, af, some (j, want)⟩ W v W) (h : LW P n ops Q rest (oI E d v) W) (k : t < n := by decide) (g : d < n := by decide) : LW P n ops Q (⟨some d, ins, ty, pos, af, some (j, want)⟩ :: rest) E W := Io (.inr ⟨j, want, t, rfl, b, k, a⟩) rfl g i h
theorem Ox (b : (ops[j]?).bind (·.dst) = some t) (a : E t = .bool want) (h : ov P E ⟨some d, ins, ty, pos, af, some (j, want)⟩ W fun v W' => LW P n ops Q rest (oI E d v) W') (i : t < n := by decide) (g : d < n := by decide) : LW P n ops Q (⟨some d, ins, ty, pos, af, some (j, want)⟩ :: rest) E W := RN (.inr ⟨j, want, t, rfl, b, i, a⟩) rfl g h
theorem Uz (b : (ops[j]?).bind (·.dst) = some t) (a : E t = .bool want) (i : ∃ p, A p ∧ ∀ W, nc P E ⟨some d, ins, ty, pos, af, some (j, want)⟩ W p W) (h : ∀ p, A p → LW P n ops Q rest (oI E d p) W) (k : t < n := by decide) (g : d < n := by decide) : LW P n ops Q (⟨some d, ins, ty, pos, af, some (j, want)⟩ :: rest) E W := SK (.inr ⟨j, want, t, rfl, b, k, a⟩) rfl g i h
theorem Vn (b : (ops[j]?).bind (·.dst) = some t) (a : E t = .bool (!want)) (h : LW P n ops Q rest (oI E d undef) W) (i : t < n := by decide) (g : d < n := by decide) : LW P n ops Q (⟨some d, ins, ty, pos, af, some (j, want)⟩ :: rest) E W := SX rfl g rfl b i a h
theorem Vu (b : (ops[j]?).bind (·.dst) = some t) (a : E t = undef) (h : LW P n ops Q rest (oI E d undef) W) (i : t < n := by decide) (g : d < n := by decide) : LW P n ops Q (⟨some d, ins, ty, pos, af, some (j, want)⟩ :: rest) E W := R9 rfl g rfl b i a h
end
section
variable {P : Program} {n : Nat} {Q : qK} {E : Nat → Value} {W : World} {ops : Array Oper} {S : Array Bool → World → Prop} {fuel : Nat} {listed : Array Bool} {μ : lQ} {B : List (Nat × Obj)}
variable {d j t : Nat} {want : Bool} {v : Value} {ins : Go.Op} {ty : TypeId} {pos : String} {af : Array Edge} {A : Value → Prop}
theorem X (i : Nat) (b : ops[i]? = some ⟨some d, ins, ty, pos, af, none⟩) (a : S (listed.setIfInBounds i true) W) (j : ∀ {W}, nc P E ⟨some d, ins, ty, pos, af, none⟩ W v W) (h : PX P n ops Q S fuel (listed.setIfInBounds i true) (oI E d v) W) (hk : CG ops listed i = true := by kernel_rfl) (hm : ∀ l w, S (l.setIfInBounds i true) w → S l w := by exact fun _ _ h => h) (g : d < n := by decide) : PX P n ops Q S (fuel + 1) listed E W := mz i b hk (.inl rfl) rfl g hm a (fun _ _ _ _ => j) h
theorem XH (i : Nat) (b : ops[i]? = some ⟨some d, ins, ty, pos, af, none⟩) (a : oD μ B W) (j : ∀ W, oD μ B W → nc P E ⟨some d, ins, ty, pos, af, none⟩ W v W) (h : PX P n ops Q (fun _ W => oD μ B W) fuel (listed.setIfInBounds i true) (oI E d v) W) (hk : CG ops listed i = true := by kernel_rfl) (g : d < n := by decide) : PX P n ops Q (fun _ W => oD μ B W) (fuel + 1) listed E W := mz i b hk (.inl rfl) rfl g (fun _ _ h => h) a (fun _ W _ h => j W h) h
theorem XQ (i : Nat) (b : ops[i]? = some ⟨some d, ins, ty, pos, af, none⟩) (a : S (listed.setIfInBounds i true) W) (j : ∃ p, A p ∧ ∀ W, nc P E ⟨some d, ins, ty, pos, af, none⟩ W p W) (h : ∀ p, A p → PX P n ops Q S fuel (listed.setIfInBounds i true) (oI E d p) W) (hk : CG ops listed i = true := by kernel_rfl) (hm : ∀ l w, S (l.setIfInBounds i true) w → S l w := by exact fun _ _ h => h) (g : d < n := by decide) : PX P n ops Q S (fuel + 1) listed E W := rX i b hk (.inl rfl) rfl g hm a j h
theorem XE (i : Nat) (a : ops[i]? = some ⟨some d, ins, ty, pos, af, none⟩) (h : ov P E ⟨some d, ins, ty, pos, af, none⟩ W fun v W' => S (listed.setIfInBounds i true) W' ∧ PX P n ops Q S fuel (listed.setIfInBounds i true) (oI E d v) W') (g : Region.ready .any ops listed = [i] := by kernel_rfl) (b : d < n := by decide) : PX P n ops Q S (fuel + 1) listed E W := MQ i a g (.inl rfl) rfl b h
theorem XO (i : Nat) (a : ops[i]? = some ⟨none, ins, ty, pos, af, none⟩) (h : ov P E ⟨none, ins, ty, pos, af, none⟩ W fun _ W' => S (listed.setIfInBounds i true) W' ∧ PX P n ops Q S fuel (listed.setIfInBounds i true) E W') (b : Region.ready .any ops listed = [i] := by kernel_rfl) : PX P n ops Q S (fuel + 1) listed E W := SZ i a b (.inl rfl) rfl h
theorem Xg (i : Nat) (g : ops[i]? = some ⟨some d, ins, ty, pos, af, some (j, want)⟩) (k : (ops[j]?).bind (·.dst) = some t) (a : E t = .bool want) (b : S (listed.setIfInBounds i true) W) (q : ∀ {W}, nc P E ⟨some d, ins, ty, pos, af, some (j, want)⟩ W v W) (h : PX P n ops Q S fuel (listed.setIfInBounds i true) (oI E d v) W) (hk : CG ops listed i = true := by kernel_rfl) (hm : ∀ l w, S (l.setIfInBounds i true) w → S l w := by exact fun _ _ h => h) (p : t < n := by decide) (m : d < n := by decide) : PX P n ops Q S (fuel + 1) listed E W := mz i g hk (.inr ⟨j, want, t, rfl, k, p, a⟩) rfl m hm b (fun _ _ _ _ => q) h
theorem qQ (i : Nat) (g : ops[i]? = some ⟨some d, ins, ty, pos, af, some (j, want)⟩) (k : (ops[j]?).bind (·.dst) = some t) (a : E t = .bool want) (b : oD μ B W) (p : ∀ W, oD μ B W → nc P E ⟨some d, ins, ty, pos, af, some (j, want)⟩ W v W) (h : PX P n ops Q (fun _ W => oD μ B W) fuel (listed.setIfInBounds i true) (oI E d v) W) (hk : CG ops listed i = true := by kernel_rfl) (m : t < n := by decide) (l : d < n := by decide) : PX P n ops Q (fun _ W => oD μ B W) (fuel + 1) listed E W := mz i g hk (.inr ⟨j, want, t, rfl, k, m, a⟩) rfl l (fun _ _ h => h) b (fun _ W _ h => p W h) h
theorem Af (i : Nat) (b : ops[i]? = some ⟨some d, ins, ty, pos, af, some (j, want)⟩) (g : (ops[j]?).bind (·.dst) = some t) (a : E t = .bool want) (h : ov P E ⟨some d, ins, ty, pos, af, some (j, want)⟩ W fun v W' => S (listed.setIfInBounds i true) W' ∧ PX P n ops Q S fuel (listed.setIfInBounds i true) (oI E d v) W') (l : Region.ready .any ops listed = [i] := by kernel_rfl) (m : t < n := by decide) (k : d < n := by decide) : PX P n ops Q S (fuel + 1) listed E W := MQ i b l (.inr ⟨j, want, t, rfl, g, m, a⟩) rfl k h
theorem Xn (i : Nat) (g : ops[i]? = some ⟨some d, ins, ty, pos, af, some (j, want)⟩) (k : (ops[j]?).bind (·.dst) = some t) (a : E t = .bool (!want)) (b : S (listed.setIfInBounds i true) W) (h : PX P n ops Q S fuel (listed.setIfInBounds i true) (oI E d undef) W) (hk : CG ops listed i = true := by kernel_rfl) (hm : ∀ l w, S (l.setIfInBounds i true) w → S l w := by exact fun _ _ h => h) (p : t < n := by decide) (m : d < n := by decide) : PX P n ops Q S (fuel + 1) listed E W := Tt i g hk rfl k p a rfl m hm b h
theorem Xu (i : Nat) (g : ops[i]? = some ⟨some d, ins, ty, pos, af, some (j, want)⟩) (k : (ops[j]?).bind (·.dst) = some t) (a : E t = undef) (b : S (listed.setIfInBounds i true) W) (h : PX P n ops Q S fuel (listed.setIfInBounds i true) (oI E d undef) W) (hk : CG ops listed i = true := by kernel_rfl) (hm : ∀ l w, S (l.setIfInBounds i true) w → S l w := by exact fun _ _ h => h) (p : t < n := by decide) (m : d < n := by decide) : PX P n ops Q S (fuel + 1) listed E W := RM i g hk rfl k p a rfl m hm b h
end
end Go.Proofs.YtklbhegeiijbjaaGreat
namespace Go.Proofs.YtklbhegeiijbjaaGreat
open Go.RowKit
section
variable {α β γ : Type}
inductive pT (Q : α → β → Prop) : List α → List β → Prop
 | nil : pT Q [] []
 | cons {a : α} {b : β} {l : List α} {m : List β} : Q a b → pT Q l m → pT Q (a :: l) (b :: m)
namespace pT
variable {Q Q' : α → β → Prop}
theorem length {l : List α} {m : List β} (h : pT Q l m) : l.length = m.length := by
 induction h with
 | nil => rfl
 | cons _ _ ih => simp [ih]
theorem imp {l : List α} {m : List β} (h : pT Q l m) (d : ∀ a b, Q a b → Q' a b) : pT Q' l m := by
 induction h with
 | nil => exact .nil
 | cons h1 _ ih => exact .cons (d _ _ h1) ih
theorem get {l : List α} {m : List β} (h : pT Q l m) : ∀ {i : Nat} {b : β}, m[i]? = some b → ∃ a, l[i]? = some a ∧ Q a b := by
 induction h with
 | nil => intro i b d; simp at d
 | cons h1 _ ih =>
  intro i b d
  cases i with
  | zero => simp at d; subst d; exact ⟨_, rfl, h1⟩
  | succ i => simpa using ih (by simpa using d)
theorem append {l a : List α} {m b : List β} (h : pT Q l m) (d : pT Q a b) : pT Q (l ++ a) (m ++ b) := by
 induction h with
 | nil => exact d
 | cons h1 _ ih => exact .cons h1 ih
theorem set {l : List α} {m : List β} (h : pT Q l m) {a : α} {b : β} (g : Q a b) : ∀ i : Nat, pT Q (l.set i a) (m.set i b) := by
 induction h with
 | nil => intro i; exact .nil
 | cons h1 d ih =>
  intro i
  cases i with
  | zero => exact .cons g d
  | succ i => exact .cons h1 (ih i)
theorem take {l : List α} {m : List β} (h : pT Q l m) : ∀ i : Nat, pT Q (l.take i) (m.take i) := by
 induction h with
 | nil => intro i; simp; exact .nil
 | cons h1 _ ih =>
  intro i
  cases i with
  | zero => exact .nil
  | succ i => exact .cons h1 (ih i)
theorem drop {l : List α} {m : List β} (h : pT Q l m) : ∀ i : Nat, pT Q (l.drop i) (m.drop i) := by
 induction h with
 | nil => intro i; simp; exact .nil
 | cons h1 a ih =>
  intro i
  cases i with
  | zero => exact .cons h1 a
  | succ i => exact ih i
end pT
theorem Dd {P : Nat → β → α → Prop} : ∀ {m : List β} (o : Nat), (∀ (i : Nat) (b : β), m[i]? = some b → ∃ a, P (o + i) b a) → ∃ l : List α, l.length = m.length ∧ ∀ (i : Nat) (b : β), m[i]? = some b → ∃ a, l[i]? = some a ∧ P (o + i) b a
 | [], _, _ => ⟨[], rfl, fun i b h => by simp at h⟩
 | b :: m, o, h => by
  obtain ⟨a, ha⟩ := h 0 b rfl
  obtain ⟨l, h1, g⟩ := Dd (m := m) (o + 1) (fun i b j => by
   obtain ⟨a, ha⟩ := h (i + 1) b (by simpa using j)
   exact ⟨a, by rw [show o + 1 + i = o + (i + 1) by omega]; exact ha⟩)
  refine ⟨a :: l, by simp [h1], fun i c d => ?_⟩
  cases i with
  | zero => simp at d; subst d; exact ⟨a, rfl, ha⟩
  | succ i =>
   obtain ⟨x, k, hp⟩ := g i c (by simpa using d)
   exact ⟨x, by simpa using k, by rw [show o + (i + 1) = o + 1 + i by omega]; exact hp⟩
theorem pT.OL {Q : α → β → Prop} : ∀ {l : List α} {m : List β}, l.length = m.length → (∀ (i : Nat) (a : α) (b : β), l[i]? = some a → m[i]? = some b → Q a b) → pT Q l m
 | [], [], _, _ => .nil
 | [], _ :: _, h, _ => by cases h
 | _ :: _, [], h, _ => by cases h
 | a :: l, b :: m, h, d => .cons (d 0 a b rfl rfl) (pT.OL (by simpa using h) (fun i x y g j => d (i + 1) x y (by simpa using g) (by simpa using j)))
end
structure Deep {β : Type} (R : rA β) (k : Nat) : Prop where
 mono : Jw R
 len : ∀ {μ ys x}, R μ ys x → ys.length = k
 one : ∀ {μ ys x}, R μ ys x → ∀ u ∈ ys, u.oneCell' = true
abbrev ya (k : Nat) := {ys : List Value // ys.length = k ∧ ∀ u ∈ ys, u.oneCell' = true}
def wv {k : Nat} (c : ya k) : List Value := c.1
theorem zb {k : Nat} (x : ya k) : (wv x).length = k := x.2.1
theorem MR {k : Nat} (x : ya k) : ∀ u ∈ wv x, u.oneCell' = true := x.2.2
theorem Sl.Bv {α : Type} {R : rA α} {k : Nat} {μ : lQ} {v : Value} {l : List α} (h : Sl R k μ v l) : v.oneCell' = true := by
 obtain ⟨A, c, rfl, _⟩ := h; rfl
section
variable {β : Type} {Rl : rA β} {k : Nat} {μ μ' : lQ} {v : Value} {l : List β}
def Deep.cell (a : Deep Rl k) {ys : List Value} {x : β} (h : Rl μ ys x) : ya k := ⟨ys, a.len h, a.one h⟩
theorem Sl.raw (z : Deep Rl k) (h : Sl Rl k μ v l) : ∃ cl : List (ya k), Sl (Pl wv) k μ v cl ∧ pT (fun c x => Rl μ c.1 x) cl l := by
 obtain ⟨A, c, rfl, h1, s, u⟩ := h
 cases l with
 | nil => exact ⟨[], ⟨A, c, rfl, h1, s, fun h => absurd h (by simp)⟩, .nil⟩
 | cons x0 l =>
  obtain ⟨b, off, cs, T, fr, rfl, D, w⟩ := u (by simp)
  obtain ⟨cl, p, r⟩ := Dd (P := fun i x (c : ya k) => Rl μ c.1 x ∧ ∀ j y, c.1[j]? = some y → cs[off + i * k + j]? = some y) (m := x0 :: l) 0 (fun i x q => by
   obtain ⟨ys, _, d, g⟩ := w i x q
   exact ⟨z.cell d, d, by rw [fO]; exact g⟩)
  refine ⟨cl, ⟨_, c, by rw [p], by omega, s, fun _ => ⟨b, off, cs, T, fr, rfl, D, fun i c n => ?_⟩⟩, pT.OL p (fun i c x n q => ?_)⟩
  ·have E : i < (x0 :: l).length := by rw [← p]; exact (bM.1 n).1
   obtain ⟨t, a, _, g⟩ := r i _ (dB E)
   rw [n] at a; cases a
   exact ⟨c.1, c.2.1, rfl, by rw [fO] at g; exact g⟩
  ·obtain ⟨t, a, d, _⟩ := r i x q
   rw [n] at a; cases a
   exact d
theorem Sl.NT {cl : List (ya k)} (h : Sl (Pl wv) k μ v cl) (t : lu μ μ') (ha : pT (fun c x => Rl μ' c.1 x) cl l) : Sl Rl k μ' v l := by
 obtain ⟨A, c, rfl, h1, m, n⟩ := h
 have a := ha.length
 refine ⟨A, c, by rw [a], by omega, m, fun w => ?_⟩
 obtain ⟨b, off, cs, T, fr, rfl, q, p⟩ := n (by omega)
 refine ⟨b, off, cs, T, fr, rfl, t _ _ q, fun i x u => ?_⟩
 obtain ⟨c, r, s⟩ := ha.get u
 obtain ⟨ys, d, g, j⟩ := p i c r
 cases g
 exact ⟨wv c, d, s, j⟩
def xL (Rl : rA β) (k : Nat) (μ : lQ) (W : World) (v : Value) (l : List β) : Prop := ∃ cl : List (ya k), Sl (Pl wv) k (hp W) v cl ∧ pT (fun c x => Rl μ c.1 x) cl l
theorem xL.sl (b : Deep Rl k) {W : World} (h : Sl Rl k μ v l) (d : lu μ (hp W)) : xL Rl k μ W v l := by
 obtain ⟨cl, h1, a⟩ := h.raw b
 exact ⟨cl, h1.mono (Pl.mono _) d, a⟩
theorem Sl.O8 {b m : Nat} {cl : List (ya k)} {cs : Array Value} {e : TypeId} (hm : cl.length = m) (a : m ≤ maxLen) (g : cs.toList = (cl.map wv).flatten) (d : μ b = some (.cells cs e (0, 0))) : Sl (Pl wv) k μ (.slice (some ⟨b, 0, none⟩) m m) cl := by
 subst hm
 refine ⟨_, _, rfl, aZ _, a, fun _ => ⟨b, 0, _, _, _, rfl, d, fun i x h => ⟨wv x, zb x, rfl, fun j y l => ?_⟩⟩⟩
 have := xN zb cl i x h j y l
 rw [← g] at this
 simpa using this
inductive DO (Rl : rA β) (k : Nat) (μ : lQ) : List Value → List β → Prop
 | nil : DO Rl k μ [] []
 | cons {ys zs : List Value} {x : β} {l : List β} : Rl μ ys x → DO Rl k μ zs l → DO Rl k μ (ys ++ zs) (x :: l)
theorem DO.cells (b : Deep Rl k) {ys : List Value} (h : DO Rl k μ ys l) : ∃ cl : List (ya k), (cl.map wv).flatten = ys ∧ pT (fun c x => Rl μ c.1 x) cl l := by
 induction h with
 | nil => exact ⟨[], rfl, .nil⟩
 | cons h1 _ ih =>
  obtain ⟨cl, e, a⟩ := ih
  exact ⟨b.cell h1 :: cl, by rw [bP, bR, e]; rfl, .cons h1 a⟩
theorem xL.lit (g : Deep Rl k) {W : World} {b m : Nat} {ys : List Value} {e : TypeId} (h : DO Rl k μ ys l) (hm : l.length = m) (i : m ≤ maxLen) (j : W.heap[b]? = some (.cells ys.toArray e (0, 0))) : xL Rl k μ W (.slice (some ⟨b, 0, none⟩) m m) l := by
 obtain ⟨cl, d, a⟩ := h.cells g
 exact ⟨cl, Sl.O8 (by rw [a.length]; exact hm) i d.symm j, a⟩
theorem Sl.imp {R R' : rA β} (h : Sl R k μ v l) (q : ∀ ys x, R μ ys x → R' μ ys x) : Sl R' k μ v l := by
 obtain ⟨A, c, rfl, h1, a, d⟩ := h
 refine ⟨A, c, rfl, h1, a, fun r => ?_⟩
 obtain ⟨b, off, cs, T, fr, rfl, p, g⟩ := d r
 exact ⟨b, off, cs, T, fr, rfl, p, fun i x s => let ⟨ys, j, m, n⟩ := g i x s; ⟨ys, j, q _ _ m, n⟩⟩
theorem Fm : ∀ (l : List Nat) (n : Nat), n ∈ l → n ≤ l.foldr max 0
 | [], n, h => by cases h
 | a :: l, n, h => by
  rcases aQ.1 h with rfl | h
  ·exact Nat.le_max_left _ _
  ·exact dF (Fm l n h) (Nat.le_max_right _ _)
theorem Sl.Tu {R : rA β} {a : Nat → rA β} (h : Sl R k μ v l) (D : ∀ ys x, R μ ys x → ∃ n, a n μ ys x) (up : ∀ n m ys x, n ≤ m → a n μ ys x → a m μ ys x) : ∃ n, Sl (a n) k μ v l := by
 obtain ⟨A, c, rfl, h1, s, w⟩ := h
 by_cases t : 0 < l.length
 ·obtain ⟨b, off, cs, T, fr, rfl, E, z⟩ := w t
  obtain ⟨G, I, u⟩ := Dd (P := fun i x (p : Nat × List Value) => p.2.length = k ∧ a p.1 μ p.2 x ∧ ∀ j y, p.2[j]? = some y → cs[off + i * k + j]? = some y) (m := l) 0 (fun i x r => by
   obtain ⟨ys, g, q, d⟩ := z i x r
   obtain ⟨n, F⟩ := D _ _ q
   exact ⟨(n, ys), g, F, by rw [fO]; exact d⟩)
  refine ⟨(G.map (·.1)).foldr max 0, _, c, rfl, h1, s, fun _ => ⟨b, off, cs, T, fr, rfl, E, fun i x r => ?_⟩⟩
  obtain ⟨p, hp, g, q, d⟩ := u i x r
  exact ⟨p.2, g, up _ _ _ _ (Fm _ _ (bN.2 ⟨p, dP hp, rfl⟩)) q, by rw [fO] at d; exact d⟩
 ·exact ⟨0, A, c, rfl, h1, s, fun h => absurd h t⟩
def lY (e : TypeId) (Rl : rA β) (k : Nat) (μ : lQ) (v : Value) (l : List β) (B : List (Nat × Obj)) : Prop := ∃ cl : List (ya k), lA e wv k v cl B ∧ pT (fun c x => Rl μ c.1 x) cl l
variable {e : TypeId} {B : List (Nat × Obj)}
theorem lY.mono (b : Deep Rl k) (h : lY e Rl k μ v l B) (d : lu μ μ') : lY e Rl k μ' v l B := by
 obtain ⟨cl, h1, a⟩ := h
 exact ⟨cl, h1, a.imp (fun _ _ h => b.mono _ _ _ _ d h)⟩
theorem lY.nil (e : TypeId) (Rl : rA β) (k : Nat) (μ : lQ) : lY e Rl k μ (.slice none 0 0) [] [] := ⟨[], lA.nil _ _ _, .nil⟩
theorem lY.lit (g : Deep Rl k) {b m : Nat} {ys : List Value} (h : DO Rl k μ ys l) (hm : l.length = m) (i : m ≤ maxLen) (j : ys.length = m * k) : lY e Rl k μ (.slice (some ⟨b, 0, none⟩) m m) l [(b, .cells ys.toArray e (0, 0))] := by
 obtain ⟨cl, d, a⟩ := h.cells g
 exact ⟨cl, lA.lit (by rw [a.length]; exact hm) i d.symm (by simpa using j), a⟩
theorem lY.form (h : lY e Rl k μ v l B) : ∃ A c, v = .slice A l.length c := by
 obtain ⟨cl, h1, a⟩ := h
 rw [← a.length]; exact h1.form
theorem lY.len (h : lY e Rl k μ v l B) : l.length ≤ 9223372036854775807 := by
 obtain ⟨cl, h1, a⟩ := h
 rw [← a.length]; exact h1.len
theorem lY.nd (h : lY e Rl k μ v l B) : (B.map (·.1)).Nodup := let ⟨_, h1, _⟩ := h; h1.nd
theorem lY.isNil {n c : Nat} (h : lY e Rl k μ (.slice none n c) l B) : l = [] := by
 obtain ⟨cl, h1, a⟩ := h
 have := a.length
 rw [h1.isNil] at this
 exact aU this.symm
theorem lY.sl (h : lY e Rl k μ v l B) (d : Deep Rl k) (g : lu μ μ') (hm : ∀ b o, (b, o) ∈ B → μ' b = some o) : Sl Rl k μ' v l := by
 obtain ⟨cl, h1, a⟩ := h
 exact Sl.NT (h1.sl zb hm) (lu.refl _) (a.imp (fun _ _ h => d.mono _ _ _ _ g h))
end
section
variable {β : Type} {Rl : rA β} {k : Nat} {μ : lQ} {v : Value} {l : List β} {e : TypeId} {B : List (Nat × Obj)}
variable {dd : Bool} {F : Nat → Prop} {w W : World} {L : List (Nat × Obj)}
theorem lY.TJ (h : lY e Rl k μ v l B) (b : Deep Rl k) (a : ST dd F w W μ L) (d : ∀ p, p ∈ B → p ∈ L) : Sl Rl k (hp W) v l := h.sl b a.kM (fun _ _ g => a.at_ (d _ g))
theorem xL.row (h : lY e Rl k μ v l B) (a : ST dd F w W μ L) (d : ∀ p, p ∈ B → p ∈ L) : xL Rl k μ W v l := let ⟨cl, h1, b⟩ := h; ⟨cl, h1.TJ zb a d, b⟩
theorem lY.RK (h : lY e Rl k μ v l B) (a : ST dd lU w W μ L) (b : ∀ p, p ∈ B → p ∈ L) : Fr w.heap.size v := let ⟨_, h1, _⟩ := h; h1.RK a b
theorem ST.tJ {Y : List (Nat × Obj)} (g : Deep Rl k) (a : ST dd F w W μ (B ++ Y)) (h : lY e Rl k μ v l B) : ∃ μ', ST dd F w W μ' Y ∧ lu μ μ' ∧ Lo F w μ μ' ∧ Sl Rl k μ' v l := by
 obtain ⟨cl, h1, d⟩ := h
 obtain ⟨μ', b, a2, a4, a3⟩ := ST.O4 a h1 zb
 exact ⟨μ', b, a2, a4, Sl.NT a3 (lu.refl _) (d.imp (fun _ _ h => g.mono _ _ _ _ a2 h))⟩
variable {P : Program} {E : Nat → Value} {d : Option Nat} {ty : TypeId} {pos : String} {af : Array Edge} {g : Option (Nat × Bool)}
theorem mU {t e' : TypeId} {x a : Operand} {z : IntKind} {i : Int} {x0 : β} {A : List Value → Prop} (r : ∀ {ys}, Rl μ ys x0 → A ys) (u : P.underlying t = some (.slice e')) (he : ∀ w, (sizeOf e').run P w = .ok k w) (y : kV E x = v) (n : kV E a = .int z i) (s : Sl Rl k μ v l) (b : 0 ≤ i) (q : l[i.toNat]? = some x0) :
  ∃ p, (∃ ys, A ys ∧ At μ p ys) ∧ ∀ W, nc P E ⟨d, .indexAddr t x a, ty, pos, af, g⟩ W p W := by
 obtain ⟨p, ys, _, h, j, m⟩ := L6 (d := d) (ty := ty) (pos := pos) (af := af) (g := g) u he y n s b q
 exact ⟨p, ⟨ys, r h, j⟩, m⟩
theorem qX {x : Operand} {t e' : TypeId} (a : P.underlying t = some (.slice e')) (b : kV E x = v) (h : lY e Rl k μ v l B) : nc P E ⟨d, .call ⟨.builtin .len, #[x], #[t]⟩, ty, pos, af, g⟩ W (.int .i64 l.length) W := by
 obtain ⟨A, c, rfl⟩ := h.form
 exact BK a b
theorem mL {t e' : TypeId} {x j : Operand} {F : IntKind} {i : Int} {x0 : β} {A : List Value → Prop} (u : ∀ {ys}, Rl μ ys x0 → A ys) (z : P.underlying t = some (.slice e')) (he : ∀ w, (sizeOf e').run P w = .ok k w) (D : kV E x = v) (r : kV E j = .int F i) (h : lY e Rl k μ v l B) (m : 0 ≤ i) (s : l[i.toNat]? = some x0) :
  ∃ p, (∃ ys, A ys ∧ At (Df B) p ys ∧ BL B k p i.toNat) ∧ ∀ W, nc P E ⟨d, .indexAddr t x j, ty, pos, af, g⟩ W p W := by
 obtain ⟨cl, h1, n⟩ := h
 obtain ⟨c, b, y⟩ := n.get s
 obtain ⟨p, a, q⟩ := pg (d := d) (ty := ty) (pos := pos) (af := af) (g := g) z he D r h1 m b
 exact ⟨p, ⟨c.1, u y, a.at h1 zb b, a⟩, q⟩
theorem Po {α g : Type} {a : Nat} {l m r : List α} {b d : List g} (h : nG a l m = some r) (h1 : b.length = l.length) (i : d.length = m.length) : nG a b d = some (b ++ d) ∧ r = l ++ m := by
 unfold nG at h ⊢
 rw [h1, i]
 split at h
 ·rename_i j; cases h; rw [aX j]; exact ⟨rfl, rfl⟩
 ·cases h
theorem pS {K : Value → World → Prop} {t : TypeId} {a : Nat} {z vs : Value} {m r : List β} {Y : List (Nat × Obj)} {x y : Operand} {i : TypeInfo} (hD : Deep Rl k) (j : ST dd F w W μ (B ++ Y)) (q : 0 < k) (Q : P.underlying t = some (.slice e)) (M : P.info? e = some i) (U : i.zero = some z) (u : z.cells.size = k) (s : i.size = k) (p : i.bytes = a) (R : kV E x = v) (T : kV E y = vs) (J : lY e Rl k μ v l B) (O : xL Rl k μ W vs m) (L : nG a l m = some r) (h : ∀ W' b R', ST dd F w W' μ (R' ++ Y) → lY e Rl k μ b r R' → K b W') : ov P E ⟨d, .call ⟨.builtin .append, #[x, y], #[t, t]⟩, ty, pos, af, g⟩ W K := by
 obtain ⟨cl, h1, A⟩ := J
 obtain ⟨Z, I, D⟩ := O
 obtain ⟨n, rfl⟩ := Po L A.length D.length
 exact oG j zb q MR Q M U u s p R T h1 I n (fun W' b R' G a2 => h W' b R' G ⟨_, a2, A.append D⟩)
theorem rU {K : Value → World → Prop} {Y : List (Nat × Obj)} {t : TypeId} {x y : Operand} {p : Value} {i : Nat} {x0 x1 : β} {ys : List Value} (n : Deep Rl k) (a : ST dd F w W μ (B ++ Y)) (h : lY e Rl k μ v l B) (z : kV E x = p) (A : kV E y = .agg ys.toArray) (j : Rl μ ys x1) (hp : BL B k p i) (u : l[i]? = some x0) (r : ∀ w, (sizeOf t).run P w = .ok k w) (q : ∀ W' R', ST dd F w W' μ (R' ++ Y) → lY e Rl k μ v (l.set i x1) R' → K undef W') : ov P E ⟨d, .store t x y, ty, pos, af, g⟩ W K := by
 obtain ⟨cl, h1, b⟩ := h
 obtain ⟨c, s, _⟩ := b.get u
 exact DI (x1 := n.cell j) a h1 zb MR z A rfl hp s r (fun W' R' m a2 => q W' R' m ⟨_, a2, b.set j i⟩)
end
end Go.Proofs.YtklbhegeiijbjaaGreat
namespace Go.Proofs.YtklbhegeiijbjaaGreat
open Go.RowKit
def ms (dd : Bool) (P : Program) (f : FuncId) (args : List Value) (w : World) (μ0 : lQ) (L0 : List (Nat × Obj)) (K : Value → List (Nat × Obj) → lQ → Prop) : Prop :=
 Calls P f args.toArray w fun e a => ∃ v L1 μ1, e = .returned v ∧ vj dd L0 L1 w a ∧ lu μ0 μ1 ∧ Lo (keys L0) w μ0 μ1 ∧ lu μ1 (vI a L1) ∧ K v L1 μ1
theorem ms.mR {dd : Bool} {P : Program} {f : FuncId} {args : List Value} {w : World} {μ0 : lQ} {L0 : List (Nat × Obj)} {K : Value → List (Nat × Obj) → lQ → Prop} (h : ms true P f args w μ0 L0 K) : ms dd P f args w μ0 L0 K :=
 dZ h fun _ _ ⟨v, L1, μ1, h1, a, b⟩ => ⟨v, L1, μ1, h1, a.mR, b⟩
section
variable {dd : Bool} {F : Nat → Prop} {w W W' : World} {μ μ1 : lQ} {L L0 L1 L2 : List (Nat × Obj)}
theorem ST.SL (h : ST dd F w W μ (L0 ++ L)) (i : vj dd L0 L1 W W') (j : Lo (keys L0) W μ μ1) (g : lu μ1 (vI W' L1)) : ST dd F w W' μ1 (L1 ++ L) := by
 have h1 := h.back i
 refine ⟨h1.os, h1.tape, h1.output, h1.drawn, h1.size, h1.nI, fun b o hm => ?_, fun b o a => ?_, h1.nd⟩
 ·have := g b o hm
  unfold vI at this
  split at this
  ·cases this
  ·exact this
 ·obtain ⟨k, m, l⟩ := h1.box b o a
  refine ⟨k, ?_, l⟩
  rcases aW.1 a with a | a
  ·cases hm : μ1 b with
   | none => rfl
   | some x =>
    have := g b x hm
    unfold vI at this
    rw [aX ⟨o, a⟩] at this
    cases this
  ·have d := h.box b o (eV _ a)
   rw [j b (ph d.1) (FG h.nd a)]
   exact d.2.1
variable {P : Program} {E : Nat → Value} {d : Option Nat} {ty : TypeId} {pos : String} {af : Array Edge} {g : Option (Nat × Bool)}
theorem GP {K : Value → World → Prop} {K' : Value → List (Nat × Obj) → lQ → Prop} {f : FuncId} {fv : Operand} {ax : Array Operand} {ats : Array TypeId} {caps : Array Value} {args : List Value} (L0 L2 : List (Nat × Obj)) (a : ST dd F w W μ L) (i : L.Perm (L0 ++ L2)) (u : kV E fv = .func (.func f) #[] caps) (he : ∀ args w, (callFunc f args).run P w = .ok (.enter f args) w) (ha : ax.map (kV E) ++ (#[] : Array Value) = args.toArray) (t : E7 L0 W → (L0.map (·.1)).Nodup → lu μ (vI W L0) → (∀ b o, (b, o) ∈ L2 → vI W L0 b = some o) → ms dd P f (args ++ caps.toList) W μ L0 K') (h : ∀ W' v μ' L1, ST dd F w W' μ' (L1 ++ L2) → lu μ μ' → Lo F w μ μ' → K' v L1 μ' → K v W') : ov P E ⟨d, .call ⟨.value fv, ax, ats⟩, ty, pos, af, g⟩ W K := by
 have j : ax.map (kV E) = args.toArray := by simpa using ha
 refine FE (args := (args ++ caps.toList).toArray) u he (by rw [j]; simp) (dZ (t (a.held i) (a.RQ i) (a.Sy i) (a.Mf i)) (fun _ W' ⟨v, L1, μ1, h1, l, m, k, n, p⟩ => ⟨v, h1, h W' v μ1 L1 ((a.perm i).SL l k n) m (fun b s r => k b (eY s a.size) (fun ⟨o, x⟩ => by
  rcases ((a.perm i).box b o (cO _ x)).2.2 with q | q
  ·omega
  ·exact r q)) p⟩))
end
end Go.Proofs.YtklbhegeiijbjaaGreat
